/- ElG, ElI, FsA, DnA0, DnTL, FsB, FsT, FsC. -/
import Derived.Deep.CutRange
import Derived.Deep.QuietTactic
import Derived.BigQuiet
import Derived.Shelf.Strings.SlTrimAscii
import Derived.Lib.SplitLaws
import Derived.Test.YtfhghdcbofbceaaGreatDoorX5
namespace Go.Proofs.YtfhghdcbofbceaaGreatDoor
open Go.RowKit Go.Lib
set_option maxRecDepth 100000
set_option maxHeartbeats 16000000
theorem nW(b:Nat)(A:Array Value)(dn rdn:List UInt8)(dl:Bool)(w:World)(h0:Hc w b A 32)(h2:A[2]?=some (.string ⟨dn.toArray⟩))(h15:A[15]?=some (.string ⟨rdn.toArray⟩))(h17:A[17]?=some (.bool dl))(h18:A[18]?=some (.bool false))(hd:dn.length≤1000000000)(hr:rdn.length≤1000000000):
  Calls Tryz.prog 85 #[.pointer (some ⟨b,0,none⟩)] w fun e w'=>(∃u,e=.returned (.agg (elA (.mk 0 16 true [] [.mk 0 4 false dn [],.mk 0 4 false rdn [],.mk 0 1 false (blB dl) []]) u))∧bf (fun g=>w.heap.size≤g) w' u [.mk 0 4 false dn [],.mk 0 4 false rdn [],.mk 0 1 false (blB dl) []])∧Bw w w':=by
 have b1:=alb w Ze 40;have t1:=alz w Ze 40;have m1:=bkk b1 h0;have hbl:=(gl h0);obtain⟨G2,G15,G17,G18⟩:=Ci h2 h15 h17 h18;clear h0 h2 h15 h17 h18
 go_enter Tryz.func85,Tryz.ntmps85
 go_upto_region 1 with fail
 generalize w.alloc (.cells Ze 40)=w1 at b1 t1 m1⊢;refine aR (S:=fun w'=>Hc w' b A 32) (by kernel_rfl) ?_;have T:Hc w1.drew b A 32:=m1;have D:Bw w w1.drew:=b1.drew;have R:Hc w1.drew w.heap.size Ze 40:=t1
 change wpAnyH _ _ _ _ _ _ _ _ w1.drew
 clear m1 b1 t1;generalize w1.drew=w2 at T D R⊢;refine tp 0 ⟨b,2,none⟩ rfl T ?_;refine tn 1 (.string ⟨dn.toArray⟩) rfl (fun w' hS=>by have q:=(aq hS 2).trans G2.out;go_simp) T ?_;refine tp 3 ⟨b,15,none⟩ rfl T ?_;refine tn 4 (.string ⟨rdn.toArray⟩) rfl (fun w' hS=>by have q:=(aq hS 15).trans G15.out;go_simp) T ?_;refine tp 6 ⟨b,17,none⟩ rfl T ?_;refine tn 7 (.bool dl) rfl (fun w' hS=>by have q:=(aq hS 17).trans G17.out;go_simp) T ?_;have kc:=bz dn w2;refine ao 2 rfl (fun K hK=>?_);go_simp;go_wp2_with fail
 refine ag kc ?_;rintro e w3 ⟨rfl,hb⟩;have T9:=bkk hb T;have D9:=btt D hb;have R9:=bkk hb R;clear kc hb T D R;have T:=T9;have D:=D9;have R:=R9;clear T9 D9 R9;refine hK _ _ T ?_;clear hK K
 have kc:=bz rdn w3;refine ao 5 rfl (fun K hK=>?_);go_simp;go_wp2_with fail
 refine ag kc ?_;rintro e w4 ⟨rfl,hb⟩;have T9:=bkk hb T;have D9:=btt D hb;have R9:=bkk hb R;clear kc hb T D R;have T:=T9;have D:=D9;have R:=R9;clear T9 D9 R9;refine hK _ _ T ?_;clear hK K
 have kc:=iS 1 dl w4;refine ao 8 rfl (fun K hK=>?_);go_simp;go_wp2_with fail
 refine ag kc ?_;rintro e w5 ⟨⟨u5,rfl,hu5⟩,hb⟩;obtain⟨a5,c5,rfl⟩:=hu5.empty;clear hu5;have T9:=bkk hb T;have D9:=btt D hb;have R9:=bkk hb R;clear kc hb T D R;have T:=T9;have D:=D9;have R:=R9;clear T9 D9 R9;refine hK _ _ T ?_;clear hK K
 simp only[elA,El.cls,El.tag,El.cons,El.bytes];have hb:=alb w5 #[I0,.int .i64 4,Bf,.string ⟨dn.toArray⟩,Sn,I0,.int .i64 4,Bf,.string ⟨rdn.toArray⟩,Sn,I0,.int .i64 1,Bf,.string ⟨((blB dl)).toArray⟩,.slice a5 0 c5] 40;have x:=alz w5 #[I0,.int .i64 4,Bf,.string ⟨dn.toArray⟩,Sn,I0,.int .i64 4,Bf,.string ⟨rdn.toArray⟩,Sn,I0,.int .i64 1,Bf,.string ⟨((blB dl)).toArray⟩,.slice a5 0 c5] 40;have z:w.heap.size+1≤w5.heap.size:=(gl R);have o6:bJ (w.heap.size+1) (w5.alloc (.cells #[I0,.int .i64 4,Bf,.string ⟨dn.toArray⟩,Sn,I0,.int .i64 4,Bf,.string ⟨rdn.toArray⟩,Sn,I0,.int .i64 1,Bf,.string ⟨((blB dl)).toArray⟩,.slice a5 0 c5] 40)) (.slice (some ⟨w5.heap.size,0,none⟩) 3 3) [.mk 0 4 false dn [],.mk 0 4 false rdn [],.mk 0 1 false (blB dl) []]:=
  bJ.flat (l:=[.mk 0 4 false dn [],.mk 0 4 false rdn [],.mk 0 1 false (blB dl) []]) (us:=[Sn,Sn,.slice a5 0 c5]) x (by simp[cx,El.cls,El.tag,El.cons,El.bytes]) rfl z (by simp) (fun j e u q1 q2=>by
   have h3:j=0∨j=1∨j=2:=by have h9:=(List.getElem?_eq_some_iff.1 q1).1;simp at h9;omega
   rcases h3 with rfl|rfl|rfl
   all_goals (simp at q1 q2;subst q1;subst q2;exact bf.no _ _ _ _))
 have T9:=bkk hb T;have D9:=btt D hb;have R9:=bkk hb R;clear hb x z T D R;refine ao 9 rfl (kks T9 ?_);generalize(w5.alloc (.cells #[I0,.int .i64 4,Bf,.string ⟨dn.toArray⟩,Sn,I0,.int .i64 4,Bf,.string ⟨rdn.toArray⟩,Sn,I0,.int .i64 1,Bf,.string ⟨((blB dl)).toArray⟩,.slice a5 0 c5] 40))=w6 at T9 D9 R9 o6⊢;generalize w5.heap.size=y at o6⊢;refine ao 10 rfl (kks T9 ?_);refine xk (by kernel_rfl) ?_ _;simp only[Exit.then];refine‹∀(a:Act) (w:World),Code.wp _ _ _ a w→_› _ _ ?_;have m6:=T9;have b6:=D9;have t6:=R9;clear T9 D9 R9;have q18:=(aq m6 18).trans G18.out;have kc:=cH [.mk 0 4 false dn [],.mk 0 4 false rdn [],.mk 0 1 false (blB dl) []] _ w6 o6.kids (by simp[SmE,SmL];exact⟨hd,hr,by cases dl<;>simp[blB]⟩) (by simp);clear o6
 go_wp2_with fail
 refine ag kc ?_;rintro e w7 ⟨⟨u,rfl,hu⟩,hb⟩;have z:=(gl t6);have t7:=bkk hb t6;have m7:=bkk hb m6;have b7:=btt b6 hb;clear hb t6 m6 b6 kc q18;obtain⟨E,hE⟩:=nmm (elA (El.mk 0 16 true [] [.mk 0 4 false dn [],.mk 0 4 false rdn [],.mk 0 1 false (blB dl) []]) u);have hE1:E.all (·.oneCell')=true:=by
  obtain⟨a,c,hsl⟩:=hu.shape;subst hsl;rw[←hE];simp[elA,Value.oneCell']
 have hE2:E.size=5:=by rw[←hE];rfl
 rw[hE];have hsz:=(gl t7);have bF:=xo b7 (g:=w.heap.size) (ah _) E;have tF:=setRow_heap w7 w.heap.size _ E _ _ t7;have uF:bf (fun g=>w.heap.size≤g) (w7.setRow w.heap.size E) u (El.mk 0 16 true [] [.mk 0 4 false dn [],.mk 0 4 false rdn [],.mk 0 1 false (blB dl) []]).kids:=hu.kept fun g hg hl=>⟨setRow_other w7 w.heap.size g E (by omega),by omega⟩
 obtain⟨HE,HE1,HE2,UF⟩:=Ci hE hE1 hE2 uF;clear hu hE hE1 hE2 uF b7
 go_wp2_with (refine stE (.tmp 1) (.tmp 23) E t7 HE2.out HE1.out ?_)
 refine aH (v:=.agg E) ?_ rfl ⟨⟨u,by rw[←HE.out]<;>rfl,UF.out⟩,bF⟩;have hr:=rlE tF HE2.out
 simp[results,Tryz.f85]
 exact hr
theorem nX(b:Nat)(A:Array Value)(dn rdn sup:List UInt8)(dl:Bool)(w:World)(h0:Hc w b A 32)(h2:A[2]?=some (.string ⟨dn.toArray⟩))(h15:A[15]?=some (.string ⟨rdn.toArray⟩))(h17:A[17]?=some (.bool dl))(h18:A[18]?=some (.bool true))(h16:A[16]?=some (.string ⟨sup.toArray⟩))(hd:dn.length≤1000000000)(hr:rdn.length≤1000000000)(hp:sup.length≤1000000000):
  Calls Tryz.prog 85 #[.pointer (some ⟨b,0,none⟩)] w fun e w'=>(∃u,e=.returned (.agg (elA (.mk 0 16 true [] [.mk 0 4 false dn [],.mk 0 4 false rdn [],.mk 0 1 false (blB dl) [],.mk 2 0 false sup []]) u))∧bf (fun g=>w.heap.size≤g) w' u [.mk 0 4 false dn [],.mk 0 4 false rdn [],.mk 0 1 false (blB dl) [],.mk 2 0 false sup []])∧Bw w w':=by
 have b1:=alb w Ze 40;have t1:=alz w Ze 40;have m1:=bkk b1 h0;have hbl:=(gl h0);obtain⟨G2,G15,G17,G18,G16⟩:=Cj h2 h15 h17 h18 h16;clear h0 h2 h15 h17 h18 h16
 go_enter Tryz.func85,Tryz.ntmps85
 go_upto_region 1 with fail
 generalize w.alloc (.cells Ze 40)=w1 at b1 t1 m1⊢;refine aR (S:=fun w'=>Hc w' b A 32) (by kernel_rfl) ?_;have T:Hc w1.drew b A 32:=m1;have D:Bw w w1.drew:=b1.drew;have R:Hc w1.drew w.heap.size Ze 40:=t1
 change wpAnyH _ _ _ _ _ _ _ _ w1.drew
 clear m1 b1 t1;generalize w1.drew=w2 at T D R⊢;refine tp 0 ⟨b,2,none⟩ rfl T ?_;refine tn 1 (.string ⟨dn.toArray⟩) rfl (fun w' hS=>by have q:=(aq hS 2).trans G2.out;go_simp) T ?_;refine tp 3 ⟨b,15,none⟩ rfl T ?_;refine tn 4 (.string ⟨rdn.toArray⟩) rfl (fun w' hS=>by have q:=(aq hS 15).trans G15.out;go_simp) T ?_;refine tp 6 ⟨b,17,none⟩ rfl T ?_;refine tn 7 (.bool dl) rfl (fun w' hS=>by have q:=(aq hS 17).trans G17.out;go_simp) T ?_;have kc:=bz dn w2;refine ao 2 rfl (fun K hK=>?_);go_simp;go_wp2_with fail
 refine ag kc ?_;rintro e w3 ⟨rfl,hb⟩;have T9:=bkk hb T;have D9:=btt D hb;have R9:=bkk hb R;clear kc hb T D R;have T:=T9;have D:=D9;have R:=R9;clear T9 D9 R9;refine hK _ _ T ?_;clear hK K
 have kc:=bz rdn w3;refine ao 5 rfl (fun K hK=>?_);go_simp;go_wp2_with fail
 refine ag kc ?_;rintro e w4 ⟨rfl,hb⟩;have T9:=bkk hb T;have D9:=btt D hb;have R9:=bkk hb R;clear kc hb T D R;have T:=T9;have D:=D9;have R:=R9;clear T9 D9 R9;refine hK _ _ T ?_;clear hK K
 have kc:=iS 1 dl w4;refine ao 8 rfl (fun K hK=>?_);go_simp;go_wp2_with fail
 refine ag kc ?_;rintro e w5 ⟨⟨u5,rfl,hu5⟩,hb⟩;obtain⟨a5,c5,rfl⟩:=hu5.empty;clear hu5;have T9:=bkk hb T;have D9:=btt D hb;have R9:=bkk hb R;clear kc hb T D R;have T:=T9;have D:=D9;have R:=R9;clear T9 D9 R9;refine hK _ _ T ?_;clear hK K
 simp only[elA,El.cls,El.tag,El.cons,El.bytes];have hb:=alb w5 #[.int .i64 0,.int .i64 4,.bool false,.string ⟨dn.toArray⟩,.slice none 0 0,.int .i64 0,.int .i64 4,.bool false,.string ⟨rdn.toArray⟩,.slice none 0 0,.int .i64 0,.int .i64 1,.bool false,.string ⟨((blB dl)).toArray⟩,.slice a5 0 c5] 40;have x:=alz w5 #[.int .i64 0,.int .i64 4,.bool false,.string ⟨dn.toArray⟩,.slice none 0 0,.int .i64 0,.int .i64 4,.bool false,.string ⟨rdn.toArray⟩,.slice none 0 0,.int .i64 0,.int .i64 1,.bool false,.string ⟨((blB dl)).toArray⟩,.slice a5 0 c5] 40;have z:w.heap.size+1≤w5.heap.size:=(gl R);have o6:bJ (w.heap.size+1) (w5.alloc (.cells #[.int .i64 0,.int .i64 4,.bool false,.string ⟨dn.toArray⟩,.slice none 0 0,.int .i64 0,.int .i64 4,.bool false,.string ⟨rdn.toArray⟩,.slice none 0 0,.int .i64 0,.int .i64 1,.bool false,.string ⟨((blB dl)).toArray⟩,.slice a5 0 c5] 40)) (.slice (some ⟨w5.heap.size,0,none⟩) 3 3) [.mk 0 4 false dn [],.mk 0 4 false rdn [],.mk 0 1 false (blB dl) []]:=
  bJ.flat (l:=[.mk 0 4 false dn [],.mk 0 4 false rdn [],.mk 0 1 false (blB dl) []]) (us:=[.slice none 0 0,.slice none 0 0,.slice a5 0 c5]) x (by simp[cx,El.cls,El.tag,El.cons,El.bytes]) rfl z (by simp) (fun j e u q1 q2=>by
   have h3:j=0∨j=1∨j=2:=by have h9:=(List.getElem?_eq_some_iff.1 q1).1;simp at h9;omega
   rcases h3 with rfl|rfl|rfl
   all_goals (simp at q1 q2;subst q1;subst q2;exact bf.no _ _ _ _))
 have T9:=bkk hb T;have D9:=btt D hb;have R9:=bkk hb R;clear hb x z T D R;refine ao 9 rfl (kks T9 ?_);generalize(w5.alloc (.cells #[.int .i64 0,.int .i64 4,.bool false,.string ⟨dn.toArray⟩,.slice none 0 0,.int .i64 0,.int .i64 4,.bool false,.string ⟨rdn.toArray⟩,.slice none 0 0,.int .i64 0,.int .i64 1,.bool false,.string ⟨((blB dl)).toArray⟩,.slice a5 0 c5] 40))=w6 at T9 D9 R9 o6⊢;generalize w5.heap.size=y at o6⊢;refine ao 10 rfl (kks T9 ?_);refine xk (by kernel_rfl) ?_ _;simp only[Exit.then];refine‹∀(a:Act) (w:World),Code.wp _ _ _ a w→_› _ _ ?_;have m6:=T9;have b6:=D9;have t6:=R9;clear T9 D9 R9;have q18:=(aq m6 18).trans G18.out
 go_upto_region 3 with fail
 clear q18;have q:=(aq m6 16).trans G16.out;have kc:=bz sup w6
 go_wp2_with fail
 refine ag kc ?_;rintro e w7 ⟨rfl,hb⟩;have t7:=bkk hb t6;have m7:=bkk hb m6;have b7:=btt b6 hb;have o7:=o6.below hb;clear hb t6 m6 b6 o6 kc q;have kc:=BY (.mk 0 4 false sup []) (.slice none 0 0) 0 w7 (bf.nil _ _) (by simp[SmE,SmL];exact hp)
 go_wp2_with fail
 refine ag kc ?_;rintro e w8 ⟨⟨u,rfl,hu⟩,hb⟩;obtain⟨ae8,ce8,rfl⟩:=hu.empty;have t8:=bkk hb t7;have m8:=bkk hb m7;have b8:=btt b7 hb;have o8:=o7.below hb;clear hb t7 m7 b7 o7 kc hu;simp only[elA,El.cls,El.tag,El.cons,El.bytes];have hb:=alb w8 #[.int .i64 2,.int .i64 0,.bool false,.string ⟨sup.toArray⟩,.slice ae8 0 ce8] 40;have x:Hc (w8.alloc (.cells #[.int .i64 2,.int .i64 0,.bool false,.string ⟨sup.toArray⟩,.slice ae8 0 ce8] 40)) w8.heap.size (elA (.mk 2 0 false sup []) (.slice ae8 0 ce8)) 40:=fb _ _ _ rfl;have t9:=bkk hb t8;have m9:=bkk hb m8;have b9:=btt b8 hb;have o9:=o8.below hb;clear hb t8 m8 b8 o8;have hs:=b9.size;have z:=(gl t9);have zm:=(gl m9);obtain⟨T9,M9,B9,O9,X⟩:=Cj t9 m9 b9 o9 x;clear x t9 m9 b9 o9
 go_wp2_with (at_builtin;refine bO rfl (.tmp 15) (.tmp 20) rfl (w.heap.size+1) (.slice (some ⟨y,0,none⟩) 3 3) [.mk 0 4 false dn [],.mk 0 4 false rdn [],.mk 0 1 false (blB dl) []] rfl O9.out (.mk 2 0 false sup []) ae8 0 ce8 w8.heap.size rfl X.out (bf.no _ _ _ _) (by simp) (by omega) ?_;intro a10 c10 w10 o10 hg;have m10:=(hg.block b zm (fun h=>by have:=(O9.out.lt h.symm).1;omega)).trans M9.out;have t10:=(hg.block w.heap.size z (fun h=>by have:=(O9.out.lt h.symm).1;omega)).trans T9.out;have b10:=B9.out.grown hg hs (fun b hb=>by have:=(O9.out.lt hb).1;omega);clear hg hs z zm X T9 M9 B9 O9;simp only[List.cons_append,List.nil_append,aG,aU,Nat.zero_add,Nat.reduceAdd] at o10⊢)
 have kc:=cH [.mk 0 4 false dn [],.mk 0 4 false rdn [],.mk 0 1 false (blB dl) [],.mk 2 0 false sup []] _ w10 o10.kids (by simp[SmE,SmL];exact⟨hd,hr,by cases dl<;>simp[blB],hp⟩) (by simp);clear o10
 go_wp2_with fail
 refine ag kc ?_;rintro e w11 ⟨⟨u,rfl,hu⟩,hb⟩;have z:=(gl t10);have t11:=bkk hb t10;have m11:=bkk hb m10;have b11:=btt b10 hb;clear hb t10 m10 b10 kc;obtain⟨E,hE⟩:=nmm (elA (El.mk 0 16 true [] [.mk 0 4 false dn [],.mk 0 4 false rdn [],.mk 0 1 false (blB dl) [],.mk 2 0 false sup []]) u);have hE1:E.all (·.oneCell')=true:=by
  obtain⟨a,c,hsl⟩:=hu.shape;subst hsl;rw[←hE];simp[elA,Value.oneCell']
 have hE2:E.size=5:=by rw[←hE];rfl
 rw[hE];have hsz:=(gl t11);have bF:=xo b11 (g:=w.heap.size) (ah _) E;have tF:=setRow_heap w11 w.heap.size _ E _ _ t11;have uF:bf (fun g=>w.heap.size≤g) (w11.setRow w.heap.size E) u (El.mk 0 16 true [] [.mk 0 4 false dn [],.mk 0 4 false rdn [],.mk 0 1 false (blB dl) [],.mk 2 0 false sup []]).kids:=hu.kept fun g hg hl=>⟨setRow_other w11 w.heap.size g E (by omega),by omega⟩
 obtain⟨HE,HE1,HE2,UF⟩:=Ci hE hE1 hE2 uF;clear hu hE hE1 hE2 uF b11
 go_wp2_with (refine stE (.tmp 1) (.tmp 23) E t11 HE2.out HE1.out ?_)
 refine aH (v:=.agg E) ?_ rfl ⟨⟨u,by rw[←HE.out]<;>rfl,UF.out⟩,bF⟩;have hr:=rlE tF HE2.out
 simp[results,Tryz.f85]
 exact hr
def Fl.row(p:Fl)(u:Value):Array Value:=#[.int .i64 p.op,.int .i64 p.n,.string ⟨p.typ.toArray⟩,.string ⟨p.value.toArray⟩,.string ⟨p.init.toArray⟩,.string ⟨p.final.toArray⟩,u]
abbrev Xr(x:Fl)(a:Option Addr)(c:Nat):Array Value:=#[.int .i64 x.op,.int .i64 x.n,.string ⟨x.typ.toArray⟩,.string ⟨x.value.toArray⟩,.string ⟨x.init.toArray⟩,.string ⟨x.final.toArray⟩,.slice a x.any.length c]
def eh(p:Fl):List El:=if p.init=[] then[] else[.mk 2 0 false p.init []]
def gb(l:List (List UInt8)):List El:=l.map (fun s=>El.mk 2 1 false s [])
def sI(w:World)(PR:Array Value)(L:List El)(v:Value)(wr:World):Prop:=
 bJ (w.heap.size+2) wr v L∧Hc wr w.heap.size PR 141∧Hc wr (w.heap.size+1) Ze 40∧Bw w wr
def vK(w:World)(p:Fl)(PR:Array Value)(v i:Value)(wr:World):Prop:=
 ∃k:Nat,i=.int .i64 (k:Int)∧k≤p.any.length∧sI w PR (eh p++gb (p.any.take k)) v wr
theorem pI(p:Fl)(u0:Value)(w:World)(hu0:ct w u0 p.any)(hok:p.ok):
  Calls Tryz.prog 108 #[.agg (p.row u0)] w fun e w'=>(∃u,e=.returned (.agg (elA (.mk 0 16 true [] (bL p)) u))∧bf (fun g=>w.heap.size≤g) w' u (bL p))∧Bw w w':=by
 have hsm:=jq p hok;have HSM:=hid hsm;have hln:=iR p hok;have HLN:=hid hln;obtain⟨PR,hPR⟩:=nmm (p.row u0);rw[hPR];have HPR:=hid hPR;clear hPR;have b1:Bw w ((w.alloc (.cells PR 141)).alloc (.cells Ze 40)):=((aA _ _).alloc (ah _) _).alloc (by simp) _;have m1:Hc ((w.alloc (.cells PR 141)).alloc (.cells Ze 40)) w.heap.size PR 141:=(alloc_old _ _ _ (by simp)).trans (fb _ _ _ rfl);have t1:Hc ((w.alloc (.cells PR 141)).alloc (.cells Ze 40)) (w.heap.size+1) Ze 40:=fb _ _ _ (by simp);obtain⟨av,cap,hu,hcap,hcells⟩:=hu0;have HU:=hid hu;clear hu;obtain⟨h1,h2,h3,h4,h5,h6⟩:=hok;obtain⟨HC,H6⟩:=Cg hcells h6;clear hsm hln hcells h6;obtain⟨H3,H4⟩:=Cg h3 h4;clear h1 h2 h3 h4
 go_enter Tryz.func108,Tryz.ntmps108
 go_upto_region 1 with fail
 generalize((w.alloc (.cells PR 141)).alloc (.cells Ze 40))=w1 at b1 m1 t1⊢
 go_upto_region 2 with fail
 have q4:w1.cell? ⟨w.heap.size,4,none⟩=some (.string ⟨p.init.toArray⟩):=(aq m1 4).trans (by rw[←HPR.out];rfl)
 go_upto_if 8 with fail
 obtain⟨B,hB⟩:=nmm p.init.isEmpty;rw[hB];have HB:=hid hB;clear hB
 go_cut [3] from 9 to 15 (fun s3 wx=>sI w PR (eh p) s3 wx)
 case first=>
  have o1:bJ (w.heap.size+2) w1 (.slice none 0 0) []:=bJ.nil _ _;rcases B.eq_false_or_eq_true with hb|hb
  ·subst hb
   have hl:eh p=[]:=by have h:=HB.out;simp at h;simp[eh,h]
   go_wp2_with fail
   go_meet
   exact⟨by rw[hl];exact o1,m1,t1,b1⟩
  ·subst hb
   have hl:eh p=[.mk 2 0 false p.init []]:=by have h:=HB.out;simp at h;simp[eh,h]
   have kc:=bz p.init w1
   go_wp2_with fail
   refine ag kc ?_;rintro e w2 ⟨rfl,hb⟩;have t2:=bkk hb t1;have m2:=bkk hb m1;have b2:=btt b1 hb;have o2:=o1.below hb;clear hb t1 m1 b1 o1 kc;have kc:=BY (.mk 0 4 false p.init []) (.slice none 0 0) 0 w2 (bf.nil _ _) (by simp[SmE,SmL];exact(by have:=H3.out;omega))
   go_wp2_with fail
   refine ag kc ?_;rintro e w3 ⟨⟨u,rfl,hu⟩,hb⟩;obtain⟨ae,ce,rfl⟩:=hu.empty;have t3:=bkk hb t2;have m3:=bkk hb m2;have b3:=btt b2 hb;have o3:=o2.below hb;clear hb t2 m2 b2 o2 kc hu;simp only[elA,El.cls,El.tag,El.cons,El.bytes];have hb:=alb w3 #[.int .i64 2,.int .i64 0,.bool false,.string ⟨p.init.toArray⟩,.slice ae 0 ce] 40;have x:Hc (w3.alloc (.cells #[.int .i64 2,.int .i64 0,.bool false,.string ⟨p.init.toArray⟩,.slice ae 0 ce] 40)) w3.heap.size (elA (.mk 2 0 false p.init []) (.slice ae 0 ce)) 40:=fb _ _ _ rfl;have t4:=bkk hb t3;have m4:=bkk hb m3;have b4:=btt b3 hb;have o4:=o3.below hb;clear hb t3 m3 b3 o3;have hs:=b4.size;have z:=(gl t4);have zm:=(gl m4);obtain⟨T9,M9,B9,O9,X⟩:=Cj t4 m4 b4 o4 x;clear x t4 m4 b4 o4
   go_wp2_with (at_builtin;refine bO rfl (.tmp 9) (.tmp 14) rfl (w.heap.size+2) (.slice none 0 0) ([]) (by rfl) O9.out (.mk 2 0 false p.init []) ae 0 ce w3.heap.size rfl X.out (bf.no _ _ _ _) (by first|(simp;done)|(have:=HLEN.out;omega)) (by omega) ?_;intro a10 c10 w5 o5 hg;have m5:=(hg.block w.heap.size zm (fun h=>by have:=(O9.out.lt h.symm).1;omega)).trans M9.out;have t5:=(hg.block (w.heap.size+1) z (fun h=>by have:=(O9.out.lt h.symm).1;omega)).trans T9.out;have b5:=B9.out.grown hg hs (fun b hb=>by have:=(O9.out.lt hb).1;omega);clear hg hs z zm X T9 M9 B9 O9)
   go_wp2_with fail
   go_meet
   exact⟨by rw[hl];exact o5,m5,t5,b5⟩
 case rest=>
  obtain⟨o1,m1,t1,b1⟩:=hcut;obtain⟨a3,c3,rfl⟩:=o1.shape;have hL0:(eh p).length≤1:=by unfold eh;split<;>simp
  have q6:wc.cell? ⟨w.heap.size,6,none⟩=some (.slice av p.any.length cap):=(aq m1 6).trans (by rw[←HPR.out,←HU.out];rfl)
  go_wp2_with fail
  go_loopw [3,5,19] (fun v _ i wr=>vK w p PR v i wr) (fun _ _ i _=>p.any.length -(RowKit.intOf i).toNat)
  case atStart=>exact⟨0,rfl,Nat.zero_le _,by simpa[gb] using o1,m1,t1,b1⟩
  case round=>
   clear o1 m1 t1 b1 q6;obtain⟨k,rfl,hk,o1,m1,t1,b1⟩:=hrel;obtain⟨a4,c4,rfl⟩:=o1.shape;have hlen:(eh p++gb (p.any.take k)).length=(eh p).length+k:=by simp[gb];omega
   rw[hlen] at o1⊢
   by_cases hkl:k<p.any.length
   ·obtain⟨s,hs⟩:∃s,p.any[k]?=some s:=⟨_,by simp[hkl];rfl⟩
    have hmem:s∈p.any:=List.mem_of_getElem? hs;have hsl:=H6.out s hmem;obtain⟨g,o,ha,hc⟩:=HC.out (by intro h0;rw[h0] at hkl;simp at hkl);subst ha;have q0:=(b1.cell (bj (hc k s hs))).trans (hc k s hs);have i1:decide ((k:Int)<(p.any.length:Int))=true:=aC (by omega);have i2:(k:Int)<(p.any.length:Int):=by omega
    have hts:eh p++gb (p.any.take (k+1))=eh p++gb (p.any.take k)++[.mk 2 1 false s []]:=by rw[List.take_add_one,hs];simp[gb]
    obtain⟨HTS,HLEN⟩:=Cg hts hlen;clear hc hs hmem hts hlen;obtain⟨LL,hLL⟩:=nmm (eh p++gb (p.any.take k));rw[hLL] at o1 HTS HLEN;clear hLL;obtain⟨t2,m2,b2,o2⟩:_∧_∧_∧_:=⟨t1,m1,b1,o1⟩;clear t1 m1 b1 o1;obtain⟨w2,hw2⟩:=nmm wr;rw[hw2] at t2 m2 b2 o2 q0⊢;clear hw2;have kc:=bz s w2
    go_wp2_with fail
    refine ag kc ?_;rintro e w3 ⟨rfl,hb⟩;have t3:=bkk hb t2;have m3:=bkk hb m2;have b3:=btt b2 hb;have o3:=o2.below hb;clear hb t2 m2 b2 o2 kc;have kc:=BY (.mk 0 4 false s []) (.slice none 0 0) 1 w3 (bf.nil _ _) (by simp[SmE,SmL];exact(by omega))
    go_wp2_with fail
    refine ag kc ?_;rintro e w4 ⟨⟨u,rfl,hu⟩,hb⟩;obtain⟨ae,ce,rfl⟩:=hu.empty;have t4:=bkk hb t3;have m4:=bkk hb m3;have b4:=btt b3 hb;have o4:=o3.below hb;clear hb t3 m3 b3 o3 kc hu;simp only[elA,El.cls,El.tag,El.cons,El.bytes];have hb:=alb w4 #[.int .i64 2,.int .i64 1,.bool false,.string ⟨s.toArray⟩,.slice ae 0 ce] 40;have x:Hc (w4.alloc (.cells #[.int .i64 2,.int .i64 1,.bool false,.string ⟨s.toArray⟩,.slice ae 0 ce] 40)) w4.heap.size (elA (.mk 2 1 false s []) (.slice ae 0 ce)) 40:=fb _ _ _ rfl;have t5:=bkk hb t4;have m5:=bkk hb m4;have b5:=btt b4 hb;have o5:=o4.below hb;clear hb t4 m4 b4 o4;have hs:=b5.size;have z:=(gl t5);have zm:=(gl m5);obtain⟨T9,M9,B9,O9,X⟩:=Cj t5 m5 b5 o5 x;clear x t5 m5 b5 o5
    go_wp2_with (at_builtin;refine bO rfl (.tmp 23) (.tmp 27) rfl (w.heap.size+2) (.slice a4 ((eh p).length+k) c4) (LL) (by rfl) O9.out (.mk 2 1 false s []) ae 0 ce w4.heap.size rfl X.out (bf.no _ _ _ _) (by first|(simp;done)|(have:=HLEN.out;omega)) (by omega) ?_;intro a10 c10 w6 o6 hg;have m6:=(hg.block w.heap.size zm (fun h=>by have:=(O9.out.lt h.symm).1;omega)).trans M9.out;have t6:=(hg.block (w.heap.size+1) z (fun h=>by have:=(O9.out.lt h.symm).1;omega)).trans T9.out;have b6:=B9.out.grown hg hs (fun b hb=>by have:=(O9.out.lt hb).1;omega);clear hg hs z zm X T9 M9 B9 O9)
    rw[HLEN.out] at o6⊢
    go_wp2_with fail
    exact⟨⟨k+1,by go_num,by omega,by rw[HTS.out];exact o6,m6,t6,b6⟩,by simp[RowKit.intOf];omega⟩
   ·obtain rfl:k=p.any.length:=by omega
    rw[List.take_of_length_le (ah _)] at o1 hlen;have q5:wr.cell? ⟨w.heap.size,5,none⟩=some (.string ⟨p.final.toArray⟩):=(aq m1 5).trans (by rw[←HPR.out];rfl);have z:=(gl t1)
    go_upto_if 32 with fail
    obtain⟨B2,hB2⟩:=nmm p.final.isEmpty;rw[hB2];have HB2:=hid hB2;clear hB2;rcases B2.eq_false_or_eq_true with hb|hb
    ·subst hb
     have hl:bL p=eh p++gb p.any:=by have h:=HB2.out;simp at h;simp[bL,eh,gb,h]
     have kc:=cH (bL p) _ wr (by rw[hl];exact o1.kids) HSM.out HLN.out;clear o1
     go_wp2_with fail
     refine ag kc ?_;rintro e w5 ⟨⟨u,rfl,hu⟩,hb⟩;have t5:=bkk hb t1;have b5:=btt b1 hb;clear kc hb t1 b1 q5 m1;obtain⟨E,hE⟩:=nmm (elA (El.mk 0 16 true [] (bL p)) u);have hE1:E.all (·.oneCell')=true:=by
      obtain⟨a,c,hsl⟩:=hu.shape;subst hsl;rw[←hE];simp[elA,Value.oneCell']
     have hE2:E.size=5:=by rw[←hE];rfl
     rw[hE];have hsz:=(gl t5);have bF:=xo b5 (g:=w.heap.size+1) (by omega) E;have tF:=setRow_heap w5 (w.heap.size+1) _ E _ _ t5;have uF:bf (fun g=>w.heap.size≤g) (w5.setRow (w.heap.size+1) E) u (El.mk 0 16 true [] (bL p)).kids:=hu.kept fun g hg hl=>⟨setRow_other w5 (w.heap.size+1) g E (by omega),by omega⟩
     obtain⟨HE,HE1,HE2,UF⟩:=Ci hE hE1 hE2 uF;clear hu hE hE1 hE2 uF b5
     go_wp2_with (refine stE (.tmp 2) (.tmp 41) E t5 HE2.out HE1.out ?_)
     refine aH (v:=.agg E) ?_ rfl ⟨⟨u,by rw[←HE.out]<;>rfl,UF.out⟩,bF⟩;have hr:=rlE tF HE2.out
     simp[results,Tryz.f108]
     exact hr
    ·subst hb
     have hl:bL p=eh p++gb p.any++[.mk 2 2 false p.final []]:=by have h:=HB2.out;simp at h;simp[bL,eh,gb,h]
     have HL:=hid hl;obtain⟨LL,hLL⟩:=nmm (eh p++gb p.any);rw[hLL] at o1 hlen HL;clear hl;have HLEN:=hid hlen;clear hlen hLL;obtain⟨w1,hw1⟩:=nmm wr;rw[hw1] at t1 m1 b1 o1 q5⊢;clear hw1;have kc:=bz p.final w1
     go_wp2_with fail
     refine ag kc ?_;rintro e w2 ⟨rfl,hb⟩;have t2:=bkk hb t1;have m2:=bkk hb m1;have b2:=btt b1 hb;have o2:=o1.below hb;clear hb t1 m1 b1 o1 kc;have kc:=BY (.mk 0 4 false p.final []) (.slice none 0 0) 2 w2 (bf.nil _ _) (by simp[SmE,SmL];exact(by have:=H4.out;omega))
     go_wp2_with fail
     refine ag kc ?_;rintro e w3 ⟨⟨u,rfl,hu⟩,hb⟩;obtain⟨ae,ce,rfl⟩:=hu.empty;have t3:=bkk hb t2;have m3:=bkk hb m2;have b3:=btt b2 hb;have o3:=o2.below hb;clear hb t2 m2 b2 o2 kc hu;simp only[elA,El.cls,El.tag,El.cons,El.bytes];have hb:=alb w3 #[.int .i64 2,.int .i64 2,.bool false,.string ⟨p.final.toArray⟩,.slice ae 0 ce] 40;have x:Hc (w3.alloc (.cells #[.int .i64 2,.int .i64 2,.bool false,.string ⟨p.final.toArray⟩,.slice ae 0 ce] 40)) w3.heap.size (elA (.mk 2 2 false p.final []) (.slice ae 0 ce)) 40:=fb _ _ _ rfl;have t4:=bkk hb t3;have m4:=bkk hb m3;have b4:=btt b3 hb;have o4:=o3.below hb;clear hb t3 m3 b3 o3;have hs:=b4.size;have z:=(gl t4);have zm:=(gl m4);obtain⟨T9,M9,B9,O9,X⟩:=Cj t4 m4 b4 o4 x;clear x t4 m4 b4 o4
     go_wp2_with (at_builtin;refine bO rfl (.tmp 33) (.tmp 38) rfl (w.heap.size+2) (.slice a4 ((eh p).length+p.any.length) c4) (LL) (by rfl) O9.out (.mk 2 2 false p.final []) ae 0 ce w3.heap.size rfl X.out (bf.no _ _ _ _) (by first|(simp;done)|(have:=HLEN.out;omega)) (by omega) ?_;intro a10 c10 w5 o5 hg;have m5:=(hg.block w.heap.size zm (fun h=>by have:=(O9.out.lt h.symm).1;omega)).trans M9.out;have t5:=(hg.block (w.heap.size+1) z (fun h=>by have:=(O9.out.lt h.symm).1;omega)).trans T9.out;have b5:=B9.out.grown hg hs (fun b hb=>by have:=(O9.out.lt hb).1;omega);clear hg hs z zm X T9 M9 B9 O9)
     have kc:=cH (bL p) _ w5 (by rw[HL.out];exact o5.kids) HSM.out HLN.out;clear o5
     go_wp2_with fail
     refine ag kc ?_;rintro e w6 ⟨⟨u,rfl,hu⟩,hb⟩;have z:=(gl t5);have t6:=bkk hb t5;have b6:=btt b5 hb;clear kc hb t5 b5 m5;obtain⟨E,hE⟩:=nmm (elA (El.mk 0 16 true [] (bL p)) u);have hE1:E.all (·.oneCell')=true:=by
      obtain⟨a,c,hsl⟩:=hu.shape;subst hsl;rw[←hE];simp[elA,Value.oneCell']
     have hE2:E.size=5:=by rw[←hE];rfl
     rw[hE];have hsz:=(gl t6);have bF:=xo b6 (g:=w.heap.size+1) (by omega) E;have tF:=setRow_heap w6 (w.heap.size+1) _ E _ _ t6;have uF:bf (fun g=>w.heap.size≤g) (w6.setRow (w.heap.size+1) E) u (El.mk 0 16 true [] (bL p)).kids:=hu.kept fun g hg hl=>⟨setRow_other w6 (w.heap.size+1) g E (by omega),by omega⟩
     obtain⟨HE,HE1,HE2,UF⟩:=Ci hE hE1 hE2 uF;clear hu hE hE1 hE2 uF b6
     go_wp2_with (refine stE (.tmp 2) (.tmp 41) E t6 HE2.out HE1.out ?_)
     refine aH (v:=.agg E) ?_ rfl ⟨⟨u,by rw[←HE.out]<;>rfl,UF.out⟩,bF⟩;have hr:=rlE tF HE2.out
     simp[results,Tryz.f108]
     exact hr
theorem oD{a b:List UInt8}(h:(⟨a.toArray⟩:ByteArray)=⟨b.toArray⟩):a=b:=by
 have:=congrArg (fun x:ByteArray=>x.data.toList) h
 simpa using this
theorem CW(u v:Value)(a b:List (List UInt8))(w:World)(hu:ct w u a)(hv:ct w v b)(ha:a.length≤1000000000)(hb:b.length≤1000000000):
  Cr 157 #[u,v] w (.bool (decide (a=b))):=by
 obtain⟨p,c,rfl,hc,h1⟩:=hu;obtain⟨q,d,rfl,hd,h2⟩:=hv
 by_cases hlen:a.length=b.length
 ·cases a with
  |nil=>
   have hb0:b=[]:=List.length_eq_zero_iff.1 (by simpa using hlen.symm);subst hb0;refine(Tryz.slices_Equal_string_empty p q c 0 d w (by omega)).mono ?_;rintro e w' ⟨rfl,rfl⟩;exact⟨rfl,aA _ _⟩
  |cons x r=>
   obtain⟨g,o,rfl,k1⟩:=h1 (by simp);obtain⟨g2,o2,rfl,k2⟩:=h2 (by intro h0;rw[h0] at hlen;simp at hlen);refine(Tryz.slices_Equal_string g o (x::r).length c g2 o2 b.length d ((x::r).map fun s=>⟨s.toArray⟩) (b.map fun s=>⟨s.toArray⟩) w (by simp) (by simp) (by omega) (by omega) (fun j hj=>?_) (fun j hj=>?_)).mono ?_
   ·have hj2:j<(x::r).length:=by simpa using hj
    rw[k1 j _ (aM hj2)];simp only[List.getD_eq_getElem?_getD,List.getElem?_map,aM hj2]
    rfl
   ·have hj2:j<b.length:=by simpa using hj
    rw[k2 j _ (aM hj2)];simp only[List.getD_eq_getElem?_getD,List.getElem?_map,aM hj2]
    rfl
   ·rintro e w' ⟨rfl,n,rfl⟩
    refine⟨?_,fU (aA _ _) n⟩;rw[List.take_of_length_le (by simp),List.take_of_length_le (by simp)]
    congr 2
    have hi:=List.map_inj_right (f:=fun s:List UInt8=>(⟨s.toArray⟩:ByteArray)) (l:=x::r) (l':=b) (fun _ _ h=>oD h);exact decide_eq_decide.2 hi
 ·refine(Tryz.slices_Equal_string_lens p q a.length c b.length d w hlen).mono ?_
  rintro e w' ⟨rfl,rfl⟩;exact⟨by rw[an (fun h=>hlen (by rw[h]))],aA _ _⟩
theorem mW(u:Value)(a:List (List UInt8))(w:World)(hu:ct w u a)(ha:a.length≤1000000000):
  Cr 148 #[u,Es] w (.bool (a.contains [])):=by
 obtain⟨p,c,rfl,hc,h1⟩:=hu;cases a with
 |nil=>
  refine(Tryz.slices_Contains_string_empty p c ⟨#[]⟩ w).mono ?_;rintro e w' ⟨rfl,rfl⟩;exact⟨rfl,aA _ _⟩
 |cons x r=>
  obtain⟨g,o,rfl,k1⟩:=h1 (by simp);refine(Tryz.slices_Contains_string g o (x::r).length c ((x::r).map fun s=>⟨s.toArray⟩) ⟨#[]⟩ w (by simp) (by omega) (fun j hj=>?_)).mono ?_
  ·have hj2:j<(x::r).length:=by simpa using hj
   rw[k1 j _ (aM hj2)];simp only[List.getD_eq_getElem?_getD,List.getElem?_map,aM hj2]
   rfl
  ·rintro e w' ⟨rfl,rfl⟩
   refine⟨?_,aA _ _⟩;rw[List.take_of_length_le (by simp)]
   congr 2
   rw[Bool.eq_iff_iff,containsS_iff,List.contains_iff_mem,List.mem_map];exact⟨fun⟨s,hs,h⟩=>by have:s=[]:=oD h;rw[←this];exact hs,fun h=>⟨[],h,rfl⟩⟩
def di(p q:Fl):Bool:=decide (p.op=q.op)&&decide (p.n=q.n)&&decide (p.typ=q.typ)&&decide (p.value=q.value)&&decide (p.init=q.init)&&decide (p.final=q.final)&&decide (p.any=q.any)
theorem gc(p q:Fl)(u v:Value)(w:World)(hu:ct w u p.any)(hv:ct w v q.any)(ha:p.any.length≤1000000000)(hb:q.any.length≤1000000000):
  Cr 147 #[.agg (p.row u),.agg (q.row v)] w (.bool (di p q)):=by
 obtain⟨OK,hOK⟩:=nmm (di p q);rw[hOK];have ke:=fun w' hb'=>CW u v p.any q.any w' (hu.below hb') (hv.below hb') ha hb
 obtain⟨P,hP⟩:=nmm (p.row u);obtain⟨Q,hQ⟩:=nmm (q.row v);rw[hP,hQ];obtain⟨HP,HQ,HOK⟩:=Ch hP hQ hOK;clear hP hQ hOK hu hv ha hb;have b1:Bw w ((w.alloc (.cells P 141)).alloc (.cells Q 141)):=((aA _ _).alloc (ah _) _).alloc (by simp) _;have m1:Hc ((w.alloc (.cells P 141)).alloc (.cells Q 141)) w.heap.size P 141:=(alloc_old _ _ _ (by simp)).trans (fb _ _ _ rfl);have t1:Hc ((w.alloc (.cells P 141)).alloc (.cells Q 141)) (w.heap.size+1) Q 141:=fb _ _ _ (by simp);have KE:=hid (ke _ b1);clear ke
 go_enter Tryz.func147,Tryz.ntmps147
 go_upto_region 1 with fail
 generalize(w.alloc (.cells P 141)).alloc (.cells Q 141)=w1 at b1 m1 t1 KE⊢;have p0:w1.cell? ⟨w.heap.size,0,none⟩=some (.int .i64 p.op):=(aq m1 0).trans (by rw[←HP.out];rfl);have q0:w1.cell? ⟨w.heap.size+1,0,none⟩=some (.int .i64 q.op):=(aq t1 0).trans (by rw[←HQ.out];rfl);have p1:w1.cell? ⟨w.heap.size,1,none⟩=some (.int .i64 p.n):=(aq m1 1).trans (by rw[←HP.out];rfl);have q1:w1.cell? ⟨w.heap.size+1,1,none⟩=some (.int .i64 q.n):=(aq t1 1).trans (by rw[←HQ.out];rfl);have p2:w1.cell? ⟨w.heap.size,2,none⟩=some (.string ⟨p.typ.toArray⟩):=(aq m1 2).trans (by rw[←HP.out];rfl);have q2:w1.cell? ⟨w.heap.size+1,2,none⟩=some (.string ⟨q.typ.toArray⟩):=(aq t1 2).trans (by rw[←HQ.out];rfl);have p3:w1.cell? ⟨w.heap.size,3,none⟩=some (.string ⟨p.value.toArray⟩):=(aq m1 3).trans (by rw[←HP.out];rfl);have q3:w1.cell? ⟨w.heap.size+1,3,none⟩=some (.string ⟨q.value.toArray⟩):=(aq t1 3).trans (by rw[←HQ.out];rfl);have p4:w1.cell? ⟨w.heap.size,4,none⟩=some (.string ⟨p.init.toArray⟩):=(aq m1 4).trans (by rw[←HP.out];rfl);have q4:w1.cell? ⟨w.heap.size+1,4,none⟩=some (.string ⟨q.init.toArray⟩):=(aq t1 4).trans (by rw[←HQ.out];rfl);have p5:w1.cell? ⟨w.heap.size,5,none⟩=some (.string ⟨p.final.toArray⟩):=(aq m1 5).trans (by rw[←HP.out];rfl);have q5:w1.cell? ⟨w.heap.size+1,5,none⟩=some (.string ⟨q.final.toArray⟩):=(aq t1 5).trans (by rw[←HQ.out];rfl);have p6:w1.cell? ⟨w.heap.size,6,none⟩=some (u):=(aq m1 6).trans (by rw[←HP.out];rfl);have q6:w1.cell? ⟨w.heap.size+1,6,none⟩=some (v):=(aq t1 6).trans (by rw[←HQ.out];rfl);clear m1 t1 HP HQ;obtain⟨o1,n1,ty1,v1,i1,f1,a1⟩:=p;obtain⟨o2,n2,ty2,v2,i2,f2,a2⟩:=q;simp only at p0 p1 p2 p3 p4 p5 q0 q1 q2 q3 q4 q5 KE HOK
 by_cases h0:o1=o2
 rotate_left
 ·have g0:(o1==o2)=false:=aE h0
  have hOK:OK=false:=by rw[←HOK.out];simp[di,h0]
  have HO:=hid hOK;clear hOK KE HOK h0
  go_wp2_with fail
  go_ret
  exact⟨by rw[HO.out];rfl,b1⟩
 subst h0
 by_cases h1:n1=n2
 rotate_left
 ·have g1:(n1==n2)=false:=aE h1
  have hOK:OK=false:=by rw[←HOK.out];simp[di,h1]
  have HO:=hid hOK;clear hOK KE HOK h1
  go_wp2_with fail
  go_ret
  exact⟨by rw[HO.out];rfl,b1⟩
 subst h1
 by_cases h2:ty1=ty2
 rotate_left
 ·have g2:(ty1==ty2)=false:=aE h2
  have g22:decide (ty1=ty2)=false:=an h2;have hOK:OK=false:=by rw[←HOK.out];simp[di,h2]
  have HO:=hid hOK;clear hOK KE HOK h2
  go_wp2_with fail
  go_ret
  exact⟨by rw[HO.out];rfl,b1⟩
 subst h2
 by_cases h3:v1=v2
 rotate_left
 ·have g3:(v1==v2)=false:=aE h3
  have g32:decide (v1=v2)=false:=an h3;have hOK:OK=false:=by rw[←HOK.out];simp[di,h3]
  have HO:=hid hOK;clear hOK KE HOK h3
  go_wp2_with fail
  go_ret
  exact⟨by rw[HO.out];rfl,b1⟩
 subst h3
 by_cases h4:i1=i2
 rotate_left
 ·have g4:(i1==i2)=false:=aE h4
  have g42:decide (i1=i2)=false:=an h4;have hOK:OK=false:=by rw[←HOK.out];simp[di,h4]
  have HO:=hid hOK;clear hOK KE HOK h4
  go_wp2_with fail
  go_ret
  exact⟨by rw[HO.out];rfl,b1⟩
 subst h4
 by_cases h5:f1=f2
 rotate_left
 ·have g5:(f1==f2)=false:=aE h5
  have g52:decide (f1=f2)=false:=an h5;have hOK:OK=false:=by rw[←HOK.out];simp[di,h5]
  have HO:=hid hOK;clear hOK KE HOK h5
  go_wp2_with fail
  go_ret
  exact⟨by rw[HO.out];rfl,b1⟩
 subst h5;have hOK:OK=decide (a1=a2):=by rw[←HOK.out];simp[di]
 have ke:=KE.out;clear KE HOK;rw[←hOK] at ke;clear hOK
 go_wp2_with fail
 refine ag ke ?_;rintro e w2 ⟨rfl,hb2⟩;have b2:=btt b1 hb2;clear ke hb2 b1 p0 p1 p2 p3 p4 p5 p6 q0 q1 q2 q3 q4 q5 q6
 go_wp2_with fail
 go_ret
 exact⟨by cases OK<;>rfl,b2⟩
theorem iu(a n:Nat):decide ((a:Int)≤(n:Int))=decide (a≤n):=decide_eq_decide.2 (by omega)
theorem jB(n a:Nat):(((n:Int)==(a:Int)))=(n==a):=by rw[Bool.eq_iff_iff];simp;omega
theorem kL(c:UInt8)(a:Nat)(h:a<256):(c==UInt8.ofNat a)=(c.toNat==a):=by
 rw[Bool.eq_iff_iff];simp only[beq_iff_eq]
 constructor
 ·rintro rfl;rw[UInt8.toNat_ofNat'];omega
 ·intro e;rw[←e];simp
theorem ju(c:UInt8)(w:World):
  Calls Tryz.prog 159 #[.int .u8 (c.toNat:Int)] w fun e w'=>e=.returned (.bool (Fe c))∧w=w':=by
 unfold Fe;generalize hn:c.toNat=n;clear hn;have h0:decide ((97:Int)≤(n:Int))=decide (97≤n):=iu 97 n;have h1:decide ((n:Int)≤(122:Int))=decide (n≤122):=iu n 122;have h2:decide ((65:Int)≤(n:Int))=decide (65≤n):=iu 65 n;have h3:decide ((n:Int)≤(90:Int))=decide (n≤90):=iu n 90;generalize decide (97≤n)=p at h0⊢;generalize decide (n≤122)=q at h1⊢;generalize decide (65≤n)=r at h2⊢;generalize decide (n≤90)=t at h3⊢;cases p<;>cases q<;>cases r<;>cases t<;>(go_enter Tryz.func159,Tryz.ntmps159;go_wp2;go_ret;exact⟨rfl,rfl⟩)
theorem nY(c:UInt8)(w:World):
  Calls Tryz.prog 165 #[.int .u8 (c.toNat:Int)] w fun e w'=>e=.returned (.bool (eN c))∧w=w':=by
 unfold eN;generalize hn:c.toNat=n;clear hn;have h0:decide ((48:Int)≤(n:Int))=decide (48≤n):=iu 48 n;have h1:decide ((n:Int)≤(57:Int))=decide (n≤57):=iu n 57;generalize decide (48≤n)=p at h0⊢;generalize decide (n≤57)=q at h1⊢;cases p<;>cases q<;>(go_enter Tryz.func165,Tryz.ntmps165;go_wp2;go_ret;exact⟨rfl,rfl⟩)
theorem pJ(c:UInt8)(w:World):
  Calls Tryz.prog 161 #[.int .u8 (c.toNat:Int)] w fun e w'=>e=.returned (.bool (jz c))∧w=w':=by
 have k1:=ju c w;have k2:=nY c w;unfold jz;have h0:((c.toNat:Int)==45)=(c==45):=(jB c.toNat 45).trans (kL c 45 (by decide)).symm;have h1:((c.toNat:Int)==46)=(c==46):=(jB c.toNat 46).trans (kL c 46 (by decide)).symm;generalize Fe c=p at k1⊢;generalize eN c=q at k2⊢;generalize(c==45)=r at h0⊢;generalize(c==46)=t at h1⊢;cases p<;>cases q<;>cases r<;>cases t<;>(go_enter Tryz.func161,Tryz.ntmps161;go_wp2_with (first|(go_at_call 159;refine k1.mono ?_;rintro e w' ⟨rfl,rfl⟩)|(go_at_call 165;refine k2.mono ?_;rintro e w' ⟨rfl,rfl⟩));go_ret;exact⟨rfl,rfl⟩)
theorem rd:∀x:List UInt8,x.dropWhile eN=[]↔x.all eN=true
 |[]=>by simp
 |c::t=>by
  by_cases h:eN c=true
  ·rw[List.dropWhile_cons_of_pos h,List.all_cons,h,Bool.true_and]
   exact rd t
  ·rw[List.dropWhile_cons_of_neg h]
   simp[h]
theorem re{p:UInt8→Bool}{x:UInt8}:∀{l:List UInt8},x∈l.takeWhile p→p x=true
 |[],h=>by simp at h
 |c::t,h=>by
  by_cases hc:p c=true
  ·rw[List.takeWhile_cons_of_pos hc] at h
   rcases aY.1 h with rfl|h
   ·exact hc
   ·exact re h
  ·rw[List.takeWhile_cons_of_neg hc] at h
   simp at h
theorem nZ(l:List UInt8):(trimS l [48,49,50,51,52,53,54,55,56,57]=[])↔l.all eN=true:=by
 have hc:∀c:UInt8,([48,49,50,51,52,53,54,55,56,57]:List UInt8).contains c=eN c:=by
  have:∀i:Fin 256,([48,49,50,51,52,53,54,55,56,57]:List UInt8).contains (UInt8.ofNat i.val)=eN (UInt8.ofNat i.val):=by decide+kernel
  intro c;have h:=this ⟨c.toNat,UInt8.toNat_lt c⟩
  simpa using h
 unfold trimS trimLeftS trimRightS;simp only[hc];rw[rd,List.all_eq_true,List.all_eq_true]
 constructor
 ·intro h x hx
  by_cases hd:eN x=true
  ·exact hd
  ·have hmem:x∈l.reverse.dropWhile eN:=by
    have:=List.takeWhile_append_dropWhile (p:=eN) (l:=l.reverse);have hx2:x∈l.reverse.takeWhile eN++l.reverse.dropWhile eN:=by rw[this];exact List.mem_reverse.2 hx
    rcases List.mem_append.1 hx2 with h1|h1
    ·exact absurd (re h1) hd
    ·exact h1
   exact h x (List.mem_reverse.2 hmem)
 ·intro h x hx
  exact h x (List.mem_reverse.1 ((List.dropWhile_sublist _).subset (List.mem_reverse.1 hx)))
theorem Dp(s:List UInt8)(w:World)(hs:s.length≤1000)(hE:Env w):
  Calls Tryz.prog 163 #[.string ⟨s.toArray⟩,.string ⟨#[46]⟩] w fun e w'=>e=.returned (.slice (some ⟨w.heap.size,0,none⟩) (split s [46]).length (split s [46]).length)∧((∀j l,(split s [46])[j]?=some l→w'.cell? ⟨w.heap.size,j,none⟩=some (.string ⟨l.toArray⟩))∧w.heap.size<w'.heap.size∧Bw w w'):=by
 obtain⟨m,hm⟩:=hE.maxl;have hlen:=Lib.splitB_all ⟨#[46]⟩ (by decide) 0 _ (⟨s.toArray⟩:ByteArray) rfl;have hd:=splitB_data ⟨#[46]⟩ 0 (countB ⟨s.toArray⟩ ⟨#[46]⟩) ⟨s.toArray⟩;have hsp:split s [46]=(splitB ⟨#[46]⟩ 0 (countB ⟨s.toArray⟩ ⟨#[46]⟩) ⟨s.toArray⟩).map (·.data.toList):=by rw[hd];simp[split,countB]
 have hl2:(split s [46]).length=countB ⟨s.toArray⟩ ⟨#[46]⟩+1:=by rw[hsp,List.length_map,hlen]
 refine(Tryz.strings_Split ⟨s.toArray⟩ ⟨#[46]⟩ m w (by rw[Lib.size_mk];omega) hm (by decide)).mono ?_;rintro e w' ⟨rfl,rfl⟩;refine⟨by rw[hl2],?_,by simp,(aA _ _).alloc (ah _) _⟩;intro j l hj;have hb:Hc (w.alloc (.cells ((splitB ⟨#[46]⟩ 0 (countB ⟨s.toArray⟩ ⟨#[46]⟩) ⟨s.toArray⟩).map Value.string).toArray 9)) w.heap.size (((splitB ⟨#[46]⟩ 0 (countB ⟨s.toArray⟩ ⟨#[46]⟩) ⟨s.toArray⟩).map Value.string).toArray) 9:=by
  show(w.heap.push _)[w.heap.size]?=_
  simp
 rw[aq hb];rw[hsp,List.getElem?_map] at hj;cases hq:(splitB ⟨#[46]⟩ 0 (countB ⟨s.toArray⟩ ⟨#[46]⟩) ⟨s.toArray⟩)[j]? with
 |none=>rw[hq] at hj;cases hj
 |some x=>
  rw[hq] at hj;cases hj;simp only[List.getElem?_toArray,List.getElem?_map,hq,aw]
theorem uX(s:List UInt8)(w:World)(hs:s.length≤1099511627776):
  Calls Tryz.prog 164 #[.string ⟨s.toArray⟩,.string ⟨#[48,49,50,51,52,53,54,55,56,57]⟩] w fun e w'=>e=.returned (.string ⟨(trimS s [48,49,50,51,52,53,54,55,56,57]).toArray⟩)∧Bw w w':=
 Any.strings_Trim_ascii Tryz.lays160 (fun w=>by kernel_rfl) (by kernel_rfl) ⟨s.toArray⟩ ⟨#[48,49,50,51,52,53,54,55,56,57]⟩ w (by rw[Lib.size_mk];omega) (by decide) (by
  intro j b hj;have:b∈([48,49,50,51,52,53,54,55,56,57]:List UInt8):=List.mem_of_getElem? hj;clear hj
  revert b
  decide)
def vY(w:World)(ls:List (List UInt8))(ANS:Bool)(i:Value)(wr:World):Prop:=
 ∃k:Nat,i=.int .i64 (k:Int)∧k≤ls.length∧(∀j l,ls[j]?=some l→wr.cell? ⟨w.heap.size,j,none⟩=some (.string ⟨l.toArray⟩))∧w.heap.size<wr.heap.size∧Bw w wr∧((ls.drop k).all mQ&&decide (1<ls.length))=ANS
theorem iX(sep:List UInt8)(save:Nat):∀(k:Nat) (s:List UInt8),∀l∈splitK sep save k s,l.length≤s.length+save
 |0,s,l,h=>by simp[splitK] at h;subst h;omega
 |k+1,s,l,h=>by
  unfold splitK at h
  split at h
  ·simp at h;subst h;omega
  ·rcases aY.1 h with rfl|h
   ·rw[List.length_take];omega
   ·have:=iX sep save k _ l h
    rw[List.length_drop] at this
    omega
theorem rf(s:List UInt8)(w:World)(hs:s.length≤64)(hE:Env w):
  Cr 160 #[.string ⟨s.toArray⟩] w (.bool (sq s)):=by
 have k1:=Dp s w (by omega) hE;have hlen:∀l∈split s [46],l.length≤64:=fun l hl=>Nat.le_trans (iX _ 0 _ _ l hl) (by omega)
 have hcnt:(split s [46]).length≤1000000:=by
  have h1:=splitB_data ⟨#[46]⟩ 0 (countB ⟨s.toArray⟩ ⟨#[46]⟩) ⟨s.toArray⟩;have h2:split s [46]=(splitB ⟨#[46]⟩ 0 (countB ⟨s.toArray⟩ ⟨#[46]⟩) ⟨s.toArray⟩).map (·.data.toList):=by rw[h1];simp[split,countB]
  have h3:=splitB_length_le ⟨#[46]⟩ 0 (countB ⟨s.toArray⟩ ⟨#[46]⟩) (⟨s.toArray⟩:ByteArray);have h4:=countB_le ⟨#[46]⟩ (by decide) _ (⟨s.toArray⟩:ByteArray) (ah _);rw[Lib.size_mk] at h4;rw[h2,List.length_map]
  omega
 unfold sq;generalize hA:((split s [46]).all mQ&&decide (1<(split s [46]).length))=ANS;obtain⟨ls,hls⟩:=nmm (split s [46]);rw[hls] at k1 hlen hA hcnt;obtain⟨HA,HL⟩:=Cg hA hlen;clear hls hA hlen
 go_enter Tryz.func160,Tryz.ntmps160
 go_wp2_with (go_at_call 163;refine k1.mono ?_;rintro e w1 ⟨rfl,hc1,hs1,hb1⟩)
 go_loopw [10] (fun i wr=>vY w ls ANS i wr) (fun i _=>ls.length -(RowKit.intOf i).toNat)
 case atStart=>exact⟨0,rfl,by omega,hc1,hs1,hb1,HA.out⟩
 case round=>
  clear hc1 hs1 hb1 HA;obtain⟨k,rfl,hk,hc,hsz,hbe,hans⟩:=hrel;have HC:=hid hc
  by_cases hkl:k<ls.length
  ·obtain⟨x,hx⟩:∃x,ls[k]=x:=⟨_,rfl⟩
   have hxk:ls[k]?=some x:=by rw[aM hkl,hx]
   have hcell:=hc k x hxk;have hxl:x.length≤64:=HL.out x (List.mem_of_getElem? hxk);rw[List.drop_eq_getElem_cons hkl,hx,List.all_cons] at hans;have k2:=uX x wr (by omega);have htr:=nZ x;obtain⟨T,hT⟩:=nmm (trimS x [48,49,50,51,52,53,54,55,56,57]);rw[hT] at k2 htr;clear hT hc hx hxk;have hnx:mQ x=(!x.isEmpty&&!(decide (1<x.length)&&x.getD 0 0==48)&&x.all eN):=rfl;rw[hnx] at hans;clear hnx
   by_cases h0:x=[]
   ·subst h0
    rw[show(!([]:List UInt8).isEmpty&&!(decide (1<([]:List UInt8).length)&&([]:List UInt8).getD 0 0==48)&&([]:List UInt8).all eN)=false from rfl,Bool.false_and,Bool.false_and] at hans;subst hans;clear htr k2
    go_wp2_with fail
    go_ret
    exact⟨rfl,hbe⟩
   ·have hne:x.isEmpty=false:=by cases x<;>simp_all
    have hx1:0<x.length:=by cases x<;>simp_all
    rw[hne,Bool.not_false,Bool.true_and] at hans;have hg0:x.getD 0 0=x[0]:=by simp[hx1]
    rw[hg0] at hans;have hq0:(((((⟨x.toArray⟩:ByteArray)[0]'(by rw[Lib.size_mk];omega)).toNat:Int))==48)=(x[0]==48):=by
     show(((x[0]).toNat:Int)==48)=_;exact(jB _ 48).trans (kL x[0] 48 (by decide)).symm
    obtain⟨p,hp⟩:=nmm (decide (1<x.length));have hp1:decide ((1:Int)<(x.length:Int))=p:=by rw[←hp];exact decide_eq_decide.2 (by omega)
    rw[hp] at hans;generalize(x[0]==48)=q at hq0 hans;clear hp hg0;have hT1:(T==[])=x.all eN:=by rw[Bool.eq_iff_iff,beq_iff_eq];exact htr
    generalize x.all eN=d at hT1 hans;clear htr;have HS:=hid hans;clear hans;have go1:(p&&q)=true→ANS=false:=fun h=>by rw[←HS.out,h];rfl
    have go2:d=false→ANS=false:=fun h=>by rw[←HS.out,h];simp
    have go3:(p&&q)=false→d=true→((ls.drop (k+1)).all mQ&&decide (1<ls.length))=ANS:=fun h h'=>by rw[←HS.out,h,h'];simp
    obtain⟨G1,G2,G3⟩:=Ch go1 go2 go3;clear go1 go2 go3 HS;cases p<;>cases q
    ·cases d
     ·have e:=G2.out rfl
      subst e;have hTe:T.isEmpty=false:=by cases T<;>simp_all
      clear hT1 G1 G2 G3
      go_wp2_with (go_at_call 164;refine k2.mono ?_;rintro e w2 ⟨rfl,hb2⟩)
      go_ret
      exact⟨rfl,cM hbe hb2⟩
     ·have hTe:T=[]:=by simpa using hT1
      subst hTe;have g:=G3.out rfl rfl;have HG:=hid g;clear g hT1 G1 G2 G3
      go_wp2_with (go_at_call 164;refine k2.mono ?_;rintro e w2 ⟨rfl,hb2⟩)
      go_roundw
      case rel=>exact⟨k+1,by go_num,by omega,fun j l h=>(hb2.cell (by exact hsz)).trans (HC.out j l h),Nat.lt_of_lt_of_le hsz hb2.size,cM hbe hb2,HG.out⟩
      case measure=>simp[RowKit.intOf];omega
    ·cases d
     ·have e:=G2.out rfl
      subst e;have hTe:T.isEmpty=false:=by cases T<;>simp_all
      clear hT1 G1 G2 G3
      go_wp2_with (go_at_call 164;refine k2.mono ?_;rintro e w2 ⟨rfl,hb2⟩)
      go_ret
      exact⟨rfl,cM hbe hb2⟩
     ·have hTe:T=[]:=by simpa using hT1
      subst hTe;have g:=G3.out rfl rfl;have HG:=hid g;clear g hT1 G1 G2 G3
      go_wp2_with (go_at_call 164;refine k2.mono ?_;rintro e w2 ⟨rfl,hb2⟩)
      go_roundw
      case rel=>exact⟨k+1,by go_num,by omega,fun j l h=>(hb2.cell (by exact hsz)).trans (HC.out j l h),Nat.lt_of_lt_of_le hsz hb2.size,cM hbe hb2,HG.out⟩
      case measure=>simp[RowKit.intOf];omega
    ·cases d
     ·have e:=G2.out rfl
      subst e;have hTe:T.isEmpty=false:=by cases T<;>simp_all
      clear hT1 G1 G2 G3
      go_wp2_with (go_at_call 164;refine k2.mono ?_;rintro e w2 ⟨rfl,hb2⟩)
      go_ret
      exact⟨rfl,cM hbe hb2⟩
     ·have hTe:T=[]:=by simpa using hT1
      subst hTe;have g:=G3.out rfl rfl;have HG:=hid g;clear g hT1 G1 G2 G3
      go_wp2_with (go_at_call 164;refine k2.mono ?_;rintro e w2 ⟨rfl,hb2⟩)
      go_roundw
      case rel=>exact⟨k+1,by go_num,by omega,fun j l h=>(hb2.cell (by exact hsz)).trans (HC.out j l h),Nat.lt_of_lt_of_le hsz hb2.size,cM hbe hb2,HG.out⟩
      case measure=>simp[RowKit.intOf];omega
    ·have e:=G1.out rfl
     subst e;clear G1 G2 G3 k2 hT1
     go_wp2_with fail
     go_ret
     exact⟨rfl,hbe⟩
  ·obtain rfl:k=ls.length:=by omega
   rw[List.drop_of_length_le (ah _),List.all_nil,Bool.true_and] at hans;have h1:decide ((1:Int)<(ls.length:Int))=ANS:=by rw[←hans];exact decide_eq_decide.2 (by omega)
   clear hans hc
   go_wp2_with fail
   go_ret
   exact⟨rfl,hbe⟩
theorem iT(s:List UInt8)(w:World)(hs:s.length≤1099511627776)(hE:Env w):
  Cr 149 #[.string ⟨s.toArray⟩] w (.bool (gr s)):=by
 unfold gr
 by_cases h0:s=[]
 ·subst h0
  rw[if_pos (.inl rfl)]
  go_enter Tryz.func149,Tryz.ntmps149
  go_wp2
  go_ret
  exact⟨rfl,aA _ _⟩
 ·have hne:s.isEmpty=false:=by cases s<;>simp_all
  have hl:0<s.length:=by cases s<;>simp_all
  by_cases h64:64<s.length
  ·rw[if_pos (.inr h64)]
   have q1:decide ((64:Int)<(s.length:Int))=true:=aC (by omega)
   go_enter Tryz.func149,Tryz.ntmps149
   go_wp2
   go_ret
   exact⟨rfl,aA _ _⟩
  ·rw[if_neg (by rintro(h|h);exact h0 h;exact h64 h)]
   have q1:decide ((64:Int)<(s.length:Int))=false:=an (by omega);have hg0:s.getD 0 0=s[0]:=by simp[hl]
   have k1:=ju s[0] w;rw[hg0];generalize Fe s[0]=p at k1⊢;cases p
   ·rw[if_neg (by simp)]
    have k2:=rf s w (by omega) hE
    go_enter Tryz.func149,Tryz.ntmps149
    go_wp2_with (first|(go_at_call 159;refine ag k1 ?_;rintro e w' ⟨rfl,rfl⟩)|(go_at_call 160;refine k2.mono ?_;rintro e w2 ⟨rfl,hb2⟩))
    go_ret
    exact⟨rfl,hb2⟩
   ·rw[if_pos rfl]
    generalize hA:s.all (fun c=>jz c&&c !=46)=ANS;have HA:=hid hA;clear hA
    go_enter Tryz.func149,Tryz.ntmps149
    go_wp2_with (go_at_call 159;refine ag k1 ?_;rintro e w' ⟨rfl,rfl⟩)
    go_loopw [21] (fun i wr=>∃k:Nat,i=.int .i64 (k:Int)∧k≤s.length∧wr=w∧(s.drop k).all (fun c=>jz c&&c !=46)=ANS) (fun i _=>s.length -(RowKit.intOf i).toNat)
    case atStart=>exact⟨0,rfl,by omega,rfl,HA.out⟩
    case round=>
     obtain⟨k,rfl,hk,rfl,hans⟩:=hrel;clear HA
     by_cases hkl:k<s.length
     ·rw[List.drop_eq_getElem_cons hkl,List.all_cons] at hans
      have k3:=pJ s[k] wr;have hq:(((((⟨s.toArray⟩:ByteArray)[k]'(by rw[Lib.size_mk];omega)).toNat:Int))==46)=(s[k]==46):=by
       show(((s[k]).toNat:Int)==46)=_;exact(jB _ 46).trans (kL s[k] 46 (by decide)).symm
      rw[show(s[k] !=46)=!(s[k]==46) from rfl] at hans;generalize(s[k]==46)=q at hq hans;generalize jz s[k]=p at k3 hans;have HS:=hid hans;clear hans;cases p
      ·have e:ANS=false:=by rw[←HS.out];rfl
       subst e
       go_wp2_with (go_at_call 161;refine ag k3 ?_;rintro e w' ⟨rfl,rfl⟩)
       go_ret
       exact⟨rfl,aA _ _⟩
      ·cases q
       ·go_wp2_with (go_at_call 161;refine ag k3 ?_;rintro e w' ⟨rfl,rfl⟩)
        go_roundw
        case rel=>exact⟨k+1,by go_num,by omega,trivial,by rw[←HS.out];simp⟩
        case measure=>simp[RowKit.intOf];omega
       ·have e:ANS=false:=by rw[←HS.out];rfl
        subst e
        go_wp2_with (go_at_call 161;refine ag k3 ?_;rintro e w' ⟨rfl,rfl⟩)
        go_ret
        exact⟨rfl,aA _ _⟩
     ·obtain rfl:k=s.length:=by omega
      rw[List.drop_of_length_le (ah _),List.all_nil] at hans;subst hans
      go_wp2_with fail
      go_ret
      exact⟨rfl,aA _ _⟩
def vL(w:World)(P X:Array Value)(wx:World):Prop:=Hc wx w.heap.size P 141∧Hc wx (w.heap.size+1) X 141∧Bw w wx
theorem Ce(p:Fl)(u:Value)(w:World)(hu:ct w u p.any)(hok:p.ok)(hE:Env w)(hop:p.op=7):
  Cr 123 #[.agg (p.row u)] w (.bool (bU p)):=by
 obtain⟨OK,hOK⟩:=nmm (bU p);rw[hOK];have HOK:=hid hOK;clear hOK;generalize hP:p.row u=P;have hP2:P.size=7:=by rw[←hP];rfl
 obtain⟨HP,HP2⟩:=Cg hP hP2;clear hP hP2;obtain⟨k1,k2,k3,k4,k5,k6⟩:=hok;obtain⟨HK6,HE,HU⟩:=Ch k6 hE hu;clear hu hE k6;obtain⟨X0,hX0⟩:=nmm (Fl.row ⟨7,0,p.typ,[],[],[],[]⟩ (Sn));have hX1:(#[.int .i64 7,I0,.string ⟨p.typ.toArray⟩,Es,Es,Es,Sn]:Array Value)=X0:=hX0;have hX2:X0.size=7:=by rw[←hX0];rfl
 have hX3:X0.all (·.oneCell')=true:=by rw[←hX0];simp[Fl.row,Value.oneCell']
 obtain⟨HX0,HX1,HX2,HX3⟩:=Ci hX0 hX1 hX2 hX3;clear hX0 hX1 hX2 hX3;have b1:=alb w P 141;have m1:=alz w P 141;have hs1:(w.alloc (.cells P 141)).heap.size=w.heap.size+1:=by simp
 have HS1:=hid hs1;clear hs1
 go_enter Tryz.func123,Tryz.ntmps123
 go_upto_region 1 with fail
 generalize w.alloc (.cells P 141)=w1 at b1 m1 HS1⊢;have q0:w1.cell? ⟨w.heap.size,0,none⟩=some (.int .i64 7):=(aq m1 0).trans (by rw[←HP.out];simp[Fl.row,hop]);have q2:w1.cell? ⟨w.heap.size,2,none⟩=some (.string ⟨p.typ.toArray⟩):=(aq m1 2).trans (by rw[←HP.out];rfl);refine aQ ?_
 iterate 4 (refine aB rfl (kkn ?_))
 refine aB rfl fun K hK=>?_
 go_simp;rw[HX1.out];refine hK _ _ ?_;clear hK K
 refine aB rfl (kkn ?_);clear q0 q2;have b2:=b1.trans ((aA w1.heap.size w1).alloc (ah _) (.cells Zf 141)|>.mono b1.size);have m2:=(alloc_old w1 (.cells Zf 141) w.heap.size (gl m1)).trans m1;have x2:Hc (w1.alloc (.cells Zf 141)) (w.heap.size+1) Zf 141:=fb _ _ _ (by rw[HS1.out]);rw[HS1.out];clear b1 m1;generalize w1.alloc (.cells Zf 141)=w2 at b2 m2 x2⊢;refine bh rfl 141 (.tmp 3) (.tmp 8) rfl (w.heap.size+1) 141 _ X0 (by rfl) (by rfl) x2 (by rw[HX2.out];rfl) (by rw[HX2.out];rfl) HX3.out ?_;have b3:=xo b2 (g:=w.heap.size+1) (by omega) X0;have m3:=(setRow_other w2 (w.heap.size+1) w.heap.size X0 (by omega)).trans m2;have x3:=setRow_heap w2 (w.heap.size+1) _ X0 _ _ x2;clear b2 m2 x2 HX1 HX3 HS1;generalize w2.setRow (w.heap.size+1) X0=w3 at b3 m3 x3⊢;have q0:w3.cell? ⟨w.heap.size,0,none⟩=some (.int .i64 7):=(aq m3 0).trans (by rw[←HP.out];simp[Fl.row,hop]);go_simp
 go_upto_region 19 with fail
 clear q0;have ks:=gc p ⟨7,0,p.typ,[],[],[],[]⟩ u (Sn) w3 (HU.out.below b3) (⟨none,0,rfl,ah _,fun h=>absurd rfl h⟩) (by omega) (by simp;try omega);rw[HP.out,HX0.out] at ks;have hAll:OK=(di p ⟨7,0,p.typ,[],[],[],[]⟩&&gr p.typ):=by rw[←HOK.out];simp[bU,di,hop,Bool.and_assoc]
 obtain⟨B,hB⟩:=nmm (di p ⟨7,0,p.typ,[],[],[],[]⟩);rw[hB] at ks hAll;have HALL:=hid hAll;clear hAll hB
 go_wp2_with (first|(refine bg rfl 141 (.tmp 1) rfl w.heap.size 141 _ (0,0) (by rfl) m3 _ Tryz.underlying141 rfl (by rw[HP2.out];rfl) ?_)|(refine bg rfl 141 (.tmp 3) rfl (w.heap.size+1) 141 _ (0,0) (by rfl) x3 _ Tryz.underlying141 rfl (by rw[HX2.out];rfl) ?_))
 refine ag ks ?_;rintro e w20 ⟨rfl,hb⟩;have m20:=bkk hb m3;have b20:=btt b3 hb;clear ks hb m3 x3 b3;cases B
 ·go_wp2_with fail
  go_ret
  exact⟨by rw[HALL.out];rfl,b20⟩
 ·have q2:w20.cell? ⟨w.heap.size,2,none⟩=some (.string ⟨p.typ.toArray⟩):=(aq m20 2).trans (by rw[←HP.out];rfl)
  have ki:=iT p.typ w20 (by omega) (HE.out.below b20)
  go_wp2_with fail
  refine ag ki ?_;rintro e w21 ⟨rfl,hb⟩;have b21:=btt b20 hb;clear ki hb b20 q2 m20
  go_wp2_with fail
  go_ret
  exact⟨by rw[HALL.out];simp,b21⟩
theorem oa(p:Fl)(u:Value)(w:World)(hu:ct w u p.any)(hok:p.ok)(hE:Env w)(hn:p.op∉([0,1,2,3,4,5,6,7,8]:List Int)):
  Cr 123 #[.agg (p.row u)] w (.bool (bU p)):=by
 obtain⟨OK,hOK⟩:=nmm (bU p);rw[hOK];have HOK:=hid hOK;clear hOK;generalize hP:p.row u=P;have hP2:P.size=7:=by rw[←hP];rfl
 obtain⟨HP,HP2⟩:=Cg hP hP2;clear hP hP2;obtain⟨k1,k2,k3,k4,k5,k6⟩:=hok;obtain⟨HK6,HE,HU⟩:=Ch k6 hE hu;clear hu hE k6;obtain⟨X0,hX0⟩:=nmm (Fl.row ⟨p.op,0,p.typ,[],[],[],[]⟩ (Sn));have hX1:(#[.int .i64 p.op,I0,.string ⟨p.typ.toArray⟩,Es,Es,Es,Sn]:Array Value)=X0:=hX0;have hX2:X0.size=7:=by rw[←hX0];rfl
 have hX3:X0.all (·.oneCell')=true:=by rw[←hX0];simp[Fl.row,Value.oneCell']
 obtain⟨HX0,HX1,HX2,HX3⟩:=Ci hX0 hX1 hX2 hX3;clear hX0 hX1 hX2 hX3;have b1:=alb w P 141;have m1:=alz w P 141;have hs1:(w.alloc (.cells P 141)).heap.size=w.heap.size+1:=by simp
 have HS1:=hid hs1;clear hs1
 go_enter Tryz.func123,Tryz.ntmps123
 go_upto_region 1 with fail
 generalize w.alloc (.cells P 141)=w1 at b1 m1 HS1⊢;have q0:w1.cell? ⟨w.heap.size,0,none⟩=some (.int .i64 p.op):=(aq m1 0).trans (by rw[←HP.out];rfl);have q2:w1.cell? ⟨w.heap.size,2,none⟩=some (.string ⟨p.typ.toArray⟩):=(aq m1 2).trans (by rw[←HP.out];rfl);refine aQ ?_
 iterate 4 (refine aB rfl (kkn ?_))
 refine aB rfl fun K hK=>?_
 go_simp;rw[HX1.out];refine hK _ _ ?_;clear hK K
 refine aB rfl (kkn ?_);clear q0 q2;have b2:=b1.trans ((aA w1.heap.size w1).alloc (ah _) (.cells Zf 141)|>.mono b1.size);have m2:=(alloc_old w1 (.cells Zf 141) w.heap.size (gl m1)).trans m1;have x2:Hc (w1.alloc (.cells Zf 141)) (w.heap.size+1) Zf 141:=fb _ _ _ (by rw[HS1.out]);rw[HS1.out];clear b1 m1;generalize w1.alloc (.cells Zf 141)=w2 at b2 m2 x2⊢;refine bh rfl 141 (.tmp 3) (.tmp 8) rfl (w.heap.size+1) 141 _ X0 (by rfl) (by rfl) x2 (by rw[HX2.out];rfl) (by rw[HX2.out];rfl) HX3.out ?_;have b3:=xo b2 (g:=w.heap.size+1) (by omega) X0;have m3:=(setRow_other w2 (w.heap.size+1) w.heap.size X0 (by omega)).trans m2;have x3:=setRow_heap w2 (w.heap.size+1) _ X0 _ _ x2;clear b2 m2 x2 HX1 HX3 HS1;generalize w2.setRow (w.heap.size+1) X0=w3 at b3 m3 x3⊢;have q0:w3.cell? ⟨w.heap.size,0,none⟩=some (.int .i64 p.op):=(aq m3 0).trans (by rw[←HP.out];rfl);go_simp;have f0:(p.op==0)=false:=aE (fun h=>by rw[h] at hn;exact hn (by decide));have f1:(p.op==1)=false:=aE (fun h=>by rw[h] at hn;exact hn (by decide));have f2:(p.op==2)=false:=aE (fun h=>by rw[h] at hn;exact hn (by decide));have f3:(p.op==3)=false:=aE (fun h=>by rw[h] at hn;exact hn (by decide));have f4:(p.op==4)=false:=aE (fun h=>by rw[h] at hn;exact hn (by decide));have f5:(p.op==5)=false:=aE (fun h=>by rw[h] at hn;exact hn (by decide));have f6:(p.op==6)=false:=aE (fun h=>by rw[h] at hn;exact hn (by decide));have f7:(p.op==7)=false:=aE (fun h=>by rw[h] at hn;exact hn (by decide));have f8:(p.op==8)=false:=aE (fun h=>by rw[h] at hn;exact hn (by decide));have hO:OK=false:=by
  rw[←HOK.out];simp only[aY,aZ,or_false,not_or] at hn
  simp[bU,hn]
 have HO:=hid hO;clear hO hn
 go_wp2_with fail
 go_ret
 exact⟨by rw[HO.out];rfl,b3⟩
theorem bl{T K c:Int}(h:T=K):(T==c)=(K==c):=by rw[h]
theorem xS(T:Int)(hT:T=3∨T=5∨T=6∨T=8)(p:Fl)(u:Value)(w:World)(hu:ct w u p.any)(hok:p.ok)(hE:Env w)(hop:p.op=T):
  Cr 123 #[.agg (p.row u)] w (.bool (bU p)):=by
 rcases hT with hT|hT|hT|hT
 all_goals
  have HT:=hid hT;have j0:=bl (c:=0) hT;have j1:=bl (c:=1) hT;have j2:=bl (c:=2) hT;have j3:=bl (c:=3) hT;have j5:=bl (c:=5) hT;have j6:=bl (c:=6) hT;have j8:=bl (c:=8) hT;have j4:=bl (c:=4) hT;have j7:=bl (c:=7) hT;clear hT;obtain⟨OK,hOK⟩:=nmm (bU p);rw[hOK];have HOK:=hid hOK;clear hOK;generalize hP:p.row u=P;have hP2:P.size=7:=by rw[←hP];rfl
  obtain⟨HP,HP2⟩:=Cg hP hP2;clear hP hP2;obtain⟨k1,k2,k3,k4,k5,k6⟩:=hok;obtain⟨HK6,HE,HU⟩:=Ch k6 hE hu;clear hu hE k6;obtain⟨X0,hX0⟩:=nmm (Fl.row ⟨T,0,p.typ,[],[],[],[]⟩ (Sn));have hX1:(#[.int .i64 T,I0,.string ⟨p.typ.toArray⟩,Es,Es,Es,Sn]:Array Value)=X0:=hX0;have hX2:X0.size=7:=by rw[←hX0];rfl
  have hX3:X0.all (·.oneCell')=true:=by rw[←hX0];simp[Fl.row,Value.oneCell']
  obtain⟨HX0,HX1,HX2,HX3⟩:=Ci hX0 hX1 hX2 hX3;clear hX0 hX1 hX2 hX3;have b1:=alb w P 141;have m1:=alz w P 141;have hs1:(w.alloc (.cells P 141)).heap.size=w.heap.size+1:=by simp
  have HS1:=hid hs1;clear hs1
  go_enter Tryz.func123,Tryz.ntmps123
  go_upto_region 1 with fail
  generalize w.alloc (.cells P 141)=w1 at b1 m1 HS1⊢;have q0:w1.cell? ⟨w.heap.size,0,none⟩=some (.int .i64 T):=(aq m1 0).trans (by rw[←HP.out];simp[Fl.row,hop]);have q2:w1.cell? ⟨w.heap.size,2,none⟩=some (.string ⟨p.typ.toArray⟩):=(aq m1 2).trans (by rw[←HP.out];rfl);refine aQ ?_
  iterate 4 (refine aB rfl (kkn ?_))
  refine aB rfl fun K hK=>?_
  go_simp;rw[HX1.out];refine hK _ _ ?_;clear hK K
  refine aB rfl (kkn ?_);clear q0 q2;have b2:=b1.trans ((aA w1.heap.size w1).alloc (ah _) (.cells Zf 141)|>.mono b1.size);have m2:=(alloc_old w1 (.cells Zf 141) w.heap.size (gl m1)).trans m1;have x2:Hc (w1.alloc (.cells Zf 141)) (w.heap.size+1) Zf 141:=fb _ _ _ (by rw[HS1.out]);rw[HS1.out];clear b1 m1;generalize w1.alloc (.cells Zf 141)=w2 at b2 m2 x2⊢;refine bh rfl 141 (.tmp 3) (.tmp 8) rfl (w.heap.size+1) 141 _ X0 (by rfl) (by rfl) x2 (by rw[HX2.out];rfl) (by rw[HX2.out];rfl) HX3.out ?_;have b3:=xo b2 (g:=w.heap.size+1) (by omega) X0;have m3:=(setRow_other w2 (w.heap.size+1) w.heap.size X0 (by omega)).trans m2;have x3:=setRow_heap w2 (w.heap.size+1) _ X0 _ _ x2;clear b2 m2 x2 HX1 HX3 HS1;generalize w2.setRow (w.heap.size+1) X0=w3 at b3 m3 x3⊢;have q0:w3.cell? ⟨w.heap.size,0,none⟩=some (.int .i64 T):=(aq m3 0).trans (by rw[←HP.out];simp[Fl.row,hop]);go_simp;have q3:w3.cell? ⟨w.heap.size,3,none⟩=some (.string ⟨p.value.toArray⟩):=(aq m3 3).trans (by rw[←HP.out];rfl);have x3':Hc w3 (w.heap.size+1) (Fl.row ⟨T,0,p.typ,[],[],[],[]⟩ (Sn)) 141:=by rw[HX0.out];exact x3
  have s3:=cval x3' 3 Es;have z3:=aj x3' 3
  go_upto_region 19 with fail
  have x4s:Hc (w3.setCell ⟨w.heap.size+1,3,none⟩ (.string ⟨p.value.toArray⟩)) (w.heap.size+1) (Fl.row ⟨T,0,p.typ,p.value,[],[],[]⟩ (Sn)) 141:=cq (i:=3) (u:=.string ⟨p.value.toArray⟩) x3';have m4:=(aX w3 ⟨w.heap.size+1,3,none⟩ (.string ⟨p.value.toArray⟩) w.heap.size (by show w.heap.size≠w.heap.size+1;omega)).trans m3;have b4:=b3.setCell (p:=⟨w.heap.size+1,3,none⟩) (by show w.heap.size≤w.heap.size+1;omega) (.string ⟨p.value.toArray⟩);obtain⟨X4,hX4⟩:=nmm (Fl.row ⟨T,0,p.typ,p.value,[],[],[]⟩ (Sn));have x4:Hc (w3.setCell ⟨w.heap.size+1,3,none⟩ (.string ⟨p.value.toArray⟩)) (w.heap.size+1) X4 141:=by rw[←hX4];exact x4s
  have hX5:X4.size=7:=by rw[←hX4];rfl
  obtain⟨HX4,HX5⟩:=Cg hX4 hX5;clear hX4 hX5 x4s x3' x3 m3 b3 s3 z3 q3 q0 HX0 HX2;generalize w3.setCell ⟨w.heap.size+1,3,none⟩ (.string ⟨p.value.toArray⟩)=w4 at x4 m4 b4⊢;have ks:=gc p ⟨T,0,p.typ,p.value,[],[],[]⟩ u (Sn) w4 (HU.out.below b4) (⟨none,0,rfl,ah _,fun h=>absurd rfl h⟩) (by omega) (by simp;try omega);rw[HP.out,HX4.out] at ks;have hAll:OK=(di p ⟨T,0,p.typ,p.value,[],[],[]⟩&&gr p.typ):=by rw[←HOK.out];simp[bU,di,hop,HT.out,Bool.and_assoc]
  obtain⟨B,hB⟩:=nmm (di p ⟨T,0,p.typ,p.value,[],[],[]⟩);rw[hB] at ks hAll;have HALL:=hid hAll;clear hAll hB
  go_wp2_with (first|(refine bg rfl 141 (.tmp 1) rfl w.heap.size 141 _ (0,0) (by rfl) m4 _ Tryz.underlying141 rfl (by rw[HP2.out];rfl) ?_)|(refine bg rfl 141 (.tmp 3) rfl (w.heap.size+1) 141 _ (0,0) (by rfl) x4 _ Tryz.underlying141 rfl (by rw[HX5.out];rfl) ?_))
  refine ag ks ?_;rintro e w20 ⟨rfl,hb⟩;have m20:=bkk hb m4;have b20:=btt b4 hb;clear ks hb m4 x4 b4;cases B
  ·go_wp2_with fail
   go_ret
   exact⟨by rw[HALL.out];rfl,b20⟩
  ·have q2:w20.cell? ⟨w.heap.size,2,none⟩=some (.string ⟨p.typ.toArray⟩):=(aq m20 2).trans (by rw[←HP.out];rfl)
   have ki:=iT p.typ w20 (by omega) (HE.out.below b20)
   go_wp2_with fail
   refine ag ki ?_;rintro e w21 ⟨rfl,hb⟩;have b21:=btt b20 hb;clear ki hb b20 q2 m20
   go_wp2_with fail
   go_ret
   exact⟨by rw[HALL.out];simp,b21⟩
theorem Cf(p:Fl)(u:Value)(w:World)(hu:ct w u p.any)(hok:p.ok)(hE:Env w)(hop:p.op=0):
  Cr 123 #[.agg (p.row u)] w (.bool (bU p)):=by
 obtain⟨OK,hOK⟩:=nmm (bU p);rw[hOK];have HOK:=hid hOK;clear hOK;generalize hP:p.row u=P;have hP2:P.size=7:=by rw[←hP];rfl
 obtain⟨HP,HP2⟩:=Cg hP hP2;clear hP hP2;obtain⟨k1,k2,k3,k4,k5,k6⟩:=hok;obtain⟨HK6,HE,HU⟩:=Ch k6 hE hu;clear hu hE k6;obtain⟨X0,hX0⟩:=nmm (Fl.row ⟨0,0,p.typ,[],[],[],[]⟩ (Sn));have hX1:(#[I0,I0,.string ⟨p.typ.toArray⟩,Es,Es,Es,Sn]:Array Value)=X0:=hX0;have hX2:X0.size=7:=by rw[←hX0];rfl
 have hX3:X0.all (·.oneCell')=true:=by rw[←hX0];simp[Fl.row,Value.oneCell']
 obtain⟨HX0,HX1,HX2,HX3⟩:=Ci hX0 hX1 hX2 hX3;clear hX0 hX1 hX2 hX3;have b1:=alb w P 141;have m1:=alz w P 141;have hs1:(w.alloc (.cells P 141)).heap.size=w.heap.size+1:=by simp
 have HS1:=hid hs1;clear hs1
 go_enter Tryz.func123,Tryz.ntmps123
 go_upto_region 1 with fail
 generalize w.alloc (.cells P 141)=w1 at b1 m1 HS1⊢;have q0:w1.cell? ⟨w.heap.size,0,none⟩=some (I0):=(aq m1 0).trans (by rw[←HP.out];simp[Fl.row,hop]);have q2:w1.cell? ⟨w.heap.size,2,none⟩=some (.string ⟨p.typ.toArray⟩):=(aq m1 2).trans (by rw[←HP.out];rfl);refine aQ ?_
 iterate 4 (refine aB rfl (kkn ?_))
 refine aB rfl fun K hK=>?_
 go_simp;rw[HX1.out];refine hK _ _ ?_;clear hK K
 refine aB rfl (kkn ?_);clear q0 q2;have b2:=b1.trans ((aA w1.heap.size w1).alloc (ah _) (.cells Zf 141)|>.mono b1.size);have m2:=(alloc_old w1 (.cells Zf 141) w.heap.size (gl m1)).trans m1;have x2:Hc (w1.alloc (.cells Zf 141)) (w.heap.size+1) Zf 141:=fb _ _ _ (by rw[HS1.out]);rw[HS1.out];clear b1 m1;generalize w1.alloc (.cells Zf 141)=w2 at b2 m2 x2⊢;refine bh rfl 141 (.tmp 3) (.tmp 8) rfl (w.heap.size+1) 141 _ X0 (by rfl) (by rfl) x2 (by rw[HX2.out];rfl) (by rw[HX2.out];rfl) HX3.out ?_;have b3:=xo b2 (g:=w.heap.size+1) (by omega) X0;have m3:=(setRow_other w2 (w.heap.size+1) w.heap.size X0 (by omega)).trans m2;have x3:=setRow_heap w2 (w.heap.size+1) _ X0 _ _ x2;clear b2 m2 x2 HX1 HX3 HS1;generalize w2.setRow (w.heap.size+1) X0=w3 at b3 m3 x3⊢;have q0:w3.cell? ⟨w.heap.size,0,none⟩=some (I0):=(aq m3 0).trans (by rw[←HP.out];simp[Fl.row,hop]);go_simp
 go_upto_region 7 with fail
 clear q0;have T:Hc w3.drew w.heap.size P 141:=m3;have D:Bw w w3.drew:=b3.drew;have Y:Hc w3.drew (w.heap.size+1) (Fl.row ⟨0,0,p.typ,[],[],[],[]⟩ (Sn)) 141:=by rw[HX0.out];exact x3
 refine aR (S:=fun w'=>Hc w' w.heap.size P 141) (by kernel_rfl) ?_
 change wpAnyH _ _ _ _ _ _ _ _ w3.drew
 clear m3 b3 x3 HX0 HX2;generalize w3.drew=w4 at T D Y⊢;refine tp 0 ⟨w.heap.size,1,none⟩ rfl T ?_;refine tn 1 (.int .i64 p.n) rfl (fun w' hS=>by have q:=(aq hS 1).trans (show _=some (Value.int .i64 p.n) from by rw[←HP.out];rfl);go_simp) T ?_;refine tp 2 ⟨w.heap.size+1,2,none⟩ rfl T ?_;have s:=cval Y 2 (.string ⟨p.typ.toArray⟩);have z:=aj Y 2;have Y1:Hc (w4.setCell ⟨w.heap.size+1,2,none⟩ (Es)) (w.heap.size+1) (Fl.row ⟨0,0,[],[],[],[],[]⟩ (Sn)) 141:=cq (i:=2) (u:=Es) Y;have T1:Hc (w4.setCell ⟨w.heap.size+1,2,none⟩ (Es)) w.heap.size P 141:=(aX w4 ⟨w.heap.size+1,2,none⟩ _ w.heap.size (by show w.heap.size≠w.heap.size+1;omega)).trans T;have D1:=D.setCell (p:=⟨w.heap.size+1,2,none⟩) (by show w.heap.size≤w.heap.size+1;omega) (Es);refine ao 3 rfl (kks T1 ?_);clear s z Y T D;generalize w4.setCell ⟨w.heap.size+1,2,none⟩ (Es)=w5 at T1 D1 Y1⊢;refine tp 4 ⟨w.heap.size+1,1,none⟩ rfl T1 ?_;have s:=cval Y1 1 I0;have z:=aj Y1 1;have x6s:Hc (w5.setCell ⟨w.heap.size+1,1,none⟩ (.int .i64 p.n)) (w.heap.size+1) (Fl.row ⟨0,p.n,[],[],[],[],[]⟩ (Sn)) 141:=cq (i:=1) (u:=.int .i64 p.n) Y1;have m6:Hc (w5.setCell ⟨w.heap.size+1,1,none⟩ (.int .i64 p.n)) w.heap.size P 141:=(aX w5 ⟨w.heap.size+1,1,none⟩ _ w.heap.size (by show w.heap.size≠w.heap.size+1;omega)).trans T1;have b6:=D1.setCell (p:=⟨w.heap.size+1,1,none⟩) (by show w.heap.size≤w.heap.size+1;omega) (.int .i64 p.n);refine ao 5 rfl (kks m6 ?_);clear s z Y1 T1 D1;refine xk (by kernel_rfl) ?_ _
 try simp only[Exit.then]
 refine‹∀(a:Act) (w:World),Code.wp _ _ _ a w→_› _ _ ?_;obtain⟨X6,hX6⟩:=nmm (Fl.row ⟨0,p.n,[],[],[],[],[]⟩ (Sn));have x6:Hc (w5.setCell ⟨w.heap.size+1,1,none⟩ (.int .i64 p.n)) (w.heap.size+1) X6 141:=by rw[←hX6];exact x6s
 have hX7:X6.size=7:=by rw[←hX6];rfl
 obtain⟨HX6,HX7⟩:=Cg hX6 hX7;clear hX6 hX7 x6s;generalize w5.setCell ⟨w.heap.size+1,1,none⟩ (.int .i64 p.n)=w6 at x6 m6 b6⊢;have ks:=gc p ⟨0,p.n,[],[],[],[],[]⟩ u (Sn) w6 (HU.out.below b6) (⟨none,0,rfl,ah _,fun h=>absurd rfl h⟩) (by omega) (by simp);rw[HP.out,HX6.out] at ks;have hAll:OK=(di p ⟨0,p.n,[],[],[],[],[]⟩&&decide (0≤p.n)&&(decide ((0:Int)≠2)||decide (p.n=1))):=by rw[←HOK.out];simp[bU,di,hop,Bool.and_assoc]
 obtain⟨B,hB⟩:=nmm (di p ⟨0,p.n,[],[],[],[],[]⟩);rw[hB] at ks hAll;have HALL:=hid hAll;clear hAll hB
 go_wp2_with (first|(refine bg rfl 141 (.tmp 1) rfl w.heap.size 141 _ (0,0) (by rfl) m6 _ Tryz.underlying141 rfl (by rw[HP2.out];rfl) ?_)|(refine bg rfl 141 (.tmp 3) rfl (w.heap.size+1) 141 _ (0,0) (by rfl) x6 _ Tryz.underlying141 rfl (by rw[HX7.out];rfl) ?_))
 refine ag ks ?_;rintro e w20 ⟨rfl,hb⟩;have m20:=bkk hb m6;have b20:=btt b6 hb;clear ks hb m6 x6 b6;have q0:w20.cell? ⟨w.heap.size,0,none⟩=some (I0):=(aq m20 0).trans (by rw[←HP.out];simp[Fl.row,hop]);have q1:w20.cell? ⟨w.heap.size,1,none⟩=some (.int .i64 p.n):=(aq m20 1).trans (by rw[←HP.out];rfl);cases B
 ·go_wp2_with fail
  go_ret
  exact⟨by rw[HALL.out];rfl,b20⟩
 ·by_cases hn:0≤p.n
  ·have f0:decide (p.n≥0)=true:=aC hn
   have f1:decide (0≤p.n)=true:=aC hn;have hO:OK=true:=by rw[HALL.out,f1];rfl
   have HO:=hid hO;clear hO HALL
   go_wp2_with fail
   go_ret
   exact⟨by rw[HO.out];rfl,b20⟩
  ·have f0:decide (p.n≥0)=false:=an hn
   have f1:decide (0≤p.n)=false:=an hn;have hO:OK=false:=by rw[HALL.out,f1];rfl
   have HO:=hid hO;clear hO HALL
   go_wp2_with fail
   go_ret
   exact⟨by rw[HO.out];rfl,b20⟩
theorem tA(p:Fl)(u:Value)(w:World)(hu:ct w u p.any)(hok:p.ok)(hE:Env w)(hop:p.op=1):
  Cr 123 #[.agg (p.row u)] w (.bool (bU p)):=by
 obtain⟨OK,hOK⟩:=nmm (bU p);rw[hOK];have HOK:=hid hOK;clear hOK;generalize hP:p.row u=P;have hP2:P.size=7:=by rw[←hP];rfl
 obtain⟨HP,HP2⟩:=Cg hP hP2;clear hP hP2;obtain⟨k1,k2,k3,k4,k5,k6⟩:=hok;obtain⟨HK6,HE,HU⟩:=Ch k6 hE hu;clear hu hE k6;obtain⟨X0,hX0⟩:=nmm (Fl.row ⟨1,0,p.typ,[],[],[],[]⟩ (Sn));have hX1:(#[.int .i64 1,I0,.string ⟨p.typ.toArray⟩,Es,Es,Es,Sn]:Array Value)=X0:=hX0;have hX2:X0.size=7:=by rw[←hX0];rfl
 have hX3:X0.all (·.oneCell')=true:=by rw[←hX0];simp[Fl.row,Value.oneCell']
 obtain⟨HX0,HX1,HX2,HX3⟩:=Ci hX0 hX1 hX2 hX3;clear hX0 hX1 hX2 hX3;have b1:=alb w P 141;have m1:=alz w P 141;have hs1:(w.alloc (.cells P 141)).heap.size=w.heap.size+1:=by simp
 have HS1:=hid hs1;clear hs1
 go_enter Tryz.func123,Tryz.ntmps123
 go_upto_region 1 with fail
 generalize w.alloc (.cells P 141)=w1 at b1 m1 HS1⊢;have q0:w1.cell? ⟨w.heap.size,0,none⟩=some (.int .i64 1):=(aq m1 0).trans (by rw[←HP.out];simp[Fl.row,hop]);have q2:w1.cell? ⟨w.heap.size,2,none⟩=some (.string ⟨p.typ.toArray⟩):=(aq m1 2).trans (by rw[←HP.out];rfl);refine aQ ?_
 iterate 4 (refine aB rfl (kkn ?_))
 refine aB rfl fun K hK=>?_
 go_simp;rw[HX1.out];refine hK _ _ ?_;clear hK K
 refine aB rfl (kkn ?_);clear q0 q2;have b2:=b1.trans ((aA w1.heap.size w1).alloc (ah _) (.cells Zf 141)|>.mono b1.size);have m2:=(alloc_old w1 (.cells Zf 141) w.heap.size (gl m1)).trans m1;have x2:Hc (w1.alloc (.cells Zf 141)) (w.heap.size+1) Zf 141:=fb _ _ _ (by rw[HS1.out]);rw[HS1.out];clear b1 m1;generalize w1.alloc (.cells Zf 141)=w2 at b2 m2 x2⊢;refine bh rfl 141 (.tmp 3) (.tmp 8) rfl (w.heap.size+1) 141 _ X0 (by rfl) (by rfl) x2 (by rw[HX2.out];rfl) (by rw[HX2.out];rfl) HX3.out ?_;have b3:=xo b2 (g:=w.heap.size+1) (by omega) X0;have m3:=(setRow_other w2 (w.heap.size+1) w.heap.size X0 (by omega)).trans m2;have x3:=setRow_heap w2 (w.heap.size+1) _ X0 _ _ x2;clear b2 m2 x2 HX1 HX3 HS1;generalize w2.setRow (w.heap.size+1) X0=w3 at b3 m3 x3⊢;have q0:w3.cell? ⟨w.heap.size,0,none⟩=some (.int .i64 1):=(aq m3 0).trans (by rw[←HP.out];simp[Fl.row,hop]);go_simp
 go_upto_region 7 with fail
 clear q0;have T:Hc w3.drew w.heap.size P 141:=m3;have D:Bw w w3.drew:=b3.drew;have Y:Hc w3.drew (w.heap.size+1) (Fl.row ⟨1,0,p.typ,[],[],[],[]⟩ (Sn)) 141:=by rw[HX0.out];exact x3
 refine aR (S:=fun w'=>Hc w' w.heap.size P 141) (by kernel_rfl) ?_
 change wpAnyH _ _ _ _ _ _ _ _ w3.drew
 clear m3 b3 x3 HX0 HX2;generalize w3.drew=w4 at T D Y⊢;refine tp 0 ⟨w.heap.size,1,none⟩ rfl T ?_;refine tn 1 (.int .i64 p.n) rfl (fun w' hS=>by have q:=(aq hS 1).trans (show _=some (Value.int .i64 p.n) from by rw[←HP.out];rfl);go_simp) T ?_;refine tp 2 ⟨w.heap.size+1,2,none⟩ rfl T ?_;have s:=cval Y 2 (.string ⟨p.typ.toArray⟩);have z:=aj Y 2;have Y1:Hc (w4.setCell ⟨w.heap.size+1,2,none⟩ (Es)) (w.heap.size+1) (Fl.row ⟨1,0,[],[],[],[],[]⟩ (Sn)) 141:=cq (i:=2) (u:=Es) Y;have T1:Hc (w4.setCell ⟨w.heap.size+1,2,none⟩ (Es)) w.heap.size P 141:=(aX w4 ⟨w.heap.size+1,2,none⟩ _ w.heap.size (by show w.heap.size≠w.heap.size+1;omega)).trans T;have D1:=D.setCell (p:=⟨w.heap.size+1,2,none⟩) (by show w.heap.size≤w.heap.size+1;omega) (Es);refine ao 3 rfl (kks T1 ?_);clear s z Y T D;generalize w4.setCell ⟨w.heap.size+1,2,none⟩ (Es)=w5 at T1 D1 Y1⊢;refine tp 4 ⟨w.heap.size+1,1,none⟩ rfl T1 ?_;have s:=cval Y1 1 I0;have z:=aj Y1 1;have x6s:Hc (w5.setCell ⟨w.heap.size+1,1,none⟩ (.int .i64 p.n)) (w.heap.size+1) (Fl.row ⟨1,p.n,[],[],[],[],[]⟩ (Sn)) 141:=cq (i:=1) (u:=.int .i64 p.n) Y1;have m6:Hc (w5.setCell ⟨w.heap.size+1,1,none⟩ (.int .i64 p.n)) w.heap.size P 141:=(aX w5 ⟨w.heap.size+1,1,none⟩ _ w.heap.size (by show w.heap.size≠w.heap.size+1;omega)).trans T1;have b6:=D1.setCell (p:=⟨w.heap.size+1,1,none⟩) (by show w.heap.size≤w.heap.size+1;omega) (.int .i64 p.n);refine ao 5 rfl (kks m6 ?_);clear s z Y1 T1 D1;refine xk (by kernel_rfl) ?_ _
 try simp only[Exit.then]
 refine‹∀(a:Act) (w:World),Code.wp _ _ _ a w→_› _ _ ?_;obtain⟨X6,hX6⟩:=nmm (Fl.row ⟨1,p.n,[],[],[],[],[]⟩ (Sn));have x6:Hc (w5.setCell ⟨w.heap.size+1,1,none⟩ (.int .i64 p.n)) (w.heap.size+1) X6 141:=by rw[←hX6];exact x6s
 have hX7:X6.size=7:=by rw[←hX6];rfl
 obtain⟨HX6,HX7⟩:=Cg hX6 hX7;clear hX6 hX7 x6s;generalize w5.setCell ⟨w.heap.size+1,1,none⟩ (.int .i64 p.n)=w6 at x6 m6 b6⊢;have ks:=gc p ⟨1,p.n,[],[],[],[],[]⟩ u (Sn) w6 (HU.out.below b6) (⟨none,0,rfl,ah _,fun h=>absurd rfl h⟩) (by omega) (by simp);rw[HP.out,HX6.out] at ks;have hAll:OK=(di p ⟨1,p.n,[],[],[],[],[]⟩&&decide (0≤p.n)&&(decide ((1:Int)≠2)||decide (p.n=1))):=by rw[←HOK.out];simp[bU,di,hop,Bool.and_assoc]
 obtain⟨B,hB⟩:=nmm (di p ⟨1,p.n,[],[],[],[],[]⟩);rw[hB] at ks hAll;have HALL:=hid hAll;clear hAll hB
 go_wp2_with (first|(refine bg rfl 141 (.tmp 1) rfl w.heap.size 141 _ (0,0) (by rfl) m6 _ Tryz.underlying141 rfl (by rw[HP2.out];rfl) ?_)|(refine bg rfl 141 (.tmp 3) rfl (w.heap.size+1) 141 _ (0,0) (by rfl) x6 _ Tryz.underlying141 rfl (by rw[HX7.out];rfl) ?_))
 refine ag ks ?_;rintro e w20 ⟨rfl,hb⟩;have m20:=bkk hb m6;have b20:=btt b6 hb;clear ks hb m6 x6 b6;have q0:w20.cell? ⟨w.heap.size,0,none⟩=some (.int .i64 1):=(aq m20 0).trans (by rw[←HP.out];simp[Fl.row,hop]);have q1:w20.cell? ⟨w.heap.size,1,none⟩=some (.int .i64 p.n):=(aq m20 1).trans (by rw[←HP.out];rfl);cases B
 ·go_wp2_with fail
  go_ret
  exact⟨by rw[HALL.out];rfl,b20⟩
 ·by_cases hn:0≤p.n
  ·have f0:decide (p.n≥0)=true:=aC hn
   have f1:decide (0≤p.n)=true:=aC hn;have hO:OK=true:=by rw[HALL.out,f1];rfl
   have HO:=hid hO;clear hO HALL
   go_wp2_with fail
   go_ret
   exact⟨by rw[HO.out];rfl,b20⟩
  ·have f0:decide (p.n≥0)=false:=an hn
   have f1:decide (0≤p.n)=false:=an hn;have hO:OK=false:=by rw[HALL.out,f1];rfl
   have HO:=hid hO;clear hO HALL
   go_wp2_with fail
   go_ret
   exact⟨by rw[HO.out];rfl,b20⟩
theorem tB(p:Fl)(u:Value)(w:World)(hu:ct w u p.any)(hok:p.ok)(hE:Env w)(hop:p.op=2):
  Cr 123 #[.agg (p.row u)] w (.bool (bU p)):=by
 obtain⟨OK,hOK⟩:=nmm (bU p);rw[hOK];have HOK:=hid hOK;clear hOK;generalize hP:p.row u=P;have hP2:P.size=7:=by rw[←hP];rfl
 obtain⟨HP,HP2⟩:=Cg hP hP2;clear hP hP2;obtain⟨k1,k2,k3,k4,k5,k6⟩:=hok;obtain⟨HK6,HE,HU⟩:=Ch k6 hE hu;clear hu hE k6;obtain⟨X0,hX0⟩:=nmm (Fl.row ⟨2,0,p.typ,[],[],[],[]⟩ (Sn));have hX1:(#[.int .i64 2,I0,.string ⟨p.typ.toArray⟩,Es,Es,Es,Sn]:Array Value)=X0:=hX0;have hX2:X0.size=7:=by rw[←hX0];rfl
 have hX3:X0.all (·.oneCell')=true:=by rw[←hX0];simp[Fl.row,Value.oneCell']
 obtain⟨HX0,HX1,HX2,HX3⟩:=Ci hX0 hX1 hX2 hX3;clear hX0 hX1 hX2 hX3;have b1:=alb w P 141;have m1:=alz w P 141;have hs1:(w.alloc (.cells P 141)).heap.size=w.heap.size+1:=by simp
 have HS1:=hid hs1;clear hs1
 go_enter Tryz.func123,Tryz.ntmps123
 go_upto_region 1 with fail
 generalize w.alloc (.cells P 141)=w1 at b1 m1 HS1⊢;have q0:w1.cell? ⟨w.heap.size,0,none⟩=some (.int .i64 2):=(aq m1 0).trans (by rw[←HP.out];simp[Fl.row,hop]);have q2:w1.cell? ⟨w.heap.size,2,none⟩=some (.string ⟨p.typ.toArray⟩):=(aq m1 2).trans (by rw[←HP.out];rfl);refine aQ ?_
 iterate 4 (refine aB rfl (kkn ?_))
 refine aB rfl fun K hK=>?_
 go_simp;rw[HX1.out];refine hK _ _ ?_;clear hK K
 refine aB rfl (kkn ?_);clear q0 q2;have b2:=b1.trans ((aA w1.heap.size w1).alloc (ah _) (.cells Zf 141)|>.mono b1.size);have m2:=(alloc_old w1 (.cells Zf 141) w.heap.size (gl m1)).trans m1;have x2:Hc (w1.alloc (.cells Zf 141)) (w.heap.size+1) Zf 141:=fb _ _ _ (by rw[HS1.out]);rw[HS1.out];clear b1 m1;generalize w1.alloc (.cells Zf 141)=w2 at b2 m2 x2⊢;refine bh rfl 141 (.tmp 3) (.tmp 8) rfl (w.heap.size+1) 141 _ X0 (by rfl) (by rfl) x2 (by rw[HX2.out];rfl) (by rw[HX2.out];rfl) HX3.out ?_;have b3:=xo b2 (g:=w.heap.size+1) (by omega) X0;have m3:=(setRow_other w2 (w.heap.size+1) w.heap.size X0 (by omega)).trans m2;have x3:=setRow_heap w2 (w.heap.size+1) _ X0 _ _ x2;clear b2 m2 x2 HX1 HX3 HS1;generalize w2.setRow (w.heap.size+1) X0=w3 at b3 m3 x3⊢;have q0:w3.cell? ⟨w.heap.size,0,none⟩=some (.int .i64 2):=(aq m3 0).trans (by rw[←HP.out];simp[Fl.row,hop]);go_simp
 go_upto_region 7 with fail
 clear q0;have T:Hc w3.drew w.heap.size P 141:=m3;have D:Bw w w3.drew:=b3.drew;have Y:Hc w3.drew (w.heap.size+1) (Fl.row ⟨2,0,p.typ,[],[],[],[]⟩ (Sn)) 141:=by rw[HX0.out];exact x3
 refine aR (S:=fun w'=>Hc w' w.heap.size P 141) (by kernel_rfl) ?_
 change wpAnyH _ _ _ _ _ _ _ _ w3.drew
 clear m3 b3 x3 HX0 HX2;generalize w3.drew=w4 at T D Y⊢;refine tp 0 ⟨w.heap.size,1,none⟩ rfl T ?_;refine tn 1 (.int .i64 p.n) rfl (fun w' hS=>by have q:=(aq hS 1).trans (show _=some (Value.int .i64 p.n) from by rw[←HP.out];rfl);go_simp) T ?_;refine tp 2 ⟨w.heap.size+1,2,none⟩ rfl T ?_;have s:=cval Y 2 (.string ⟨p.typ.toArray⟩);have z:=aj Y 2;have Y1:Hc (w4.setCell ⟨w.heap.size+1,2,none⟩ (Es)) (w.heap.size+1) (Fl.row ⟨2,0,[],[],[],[],[]⟩ (Sn)) 141:=cq (i:=2) (u:=Es) Y;have T1:Hc (w4.setCell ⟨w.heap.size+1,2,none⟩ (Es)) w.heap.size P 141:=(aX w4 ⟨w.heap.size+1,2,none⟩ _ w.heap.size (by show w.heap.size≠w.heap.size+1;omega)).trans T;have D1:=D.setCell (p:=⟨w.heap.size+1,2,none⟩) (by show w.heap.size≤w.heap.size+1;omega) (Es);refine ao 3 rfl (kks T1 ?_);clear s z Y T D;generalize w4.setCell ⟨w.heap.size+1,2,none⟩ (Es)=w5 at T1 D1 Y1⊢;refine tp 4 ⟨w.heap.size+1,1,none⟩ rfl T1 ?_;have s:=cval Y1 1 I0;have z:=aj Y1 1;have x6s:Hc (w5.setCell ⟨w.heap.size+1,1,none⟩ (.int .i64 p.n)) (w.heap.size+1) (Fl.row ⟨2,p.n,[],[],[],[],[]⟩ (Sn)) 141:=cq (i:=1) (u:=.int .i64 p.n) Y1;have m6:Hc (w5.setCell ⟨w.heap.size+1,1,none⟩ (.int .i64 p.n)) w.heap.size P 141:=(aX w5 ⟨w.heap.size+1,1,none⟩ _ w.heap.size (by show w.heap.size≠w.heap.size+1;omega)).trans T1;have b6:=D1.setCell (p:=⟨w.heap.size+1,1,none⟩) (by show w.heap.size≤w.heap.size+1;omega) (.int .i64 p.n);refine ao 5 rfl (kks m6 ?_);clear s z Y1 T1 D1;refine xk (by kernel_rfl) ?_ _
 try simp only[Exit.then]
 refine‹∀(a:Act) (w:World),Code.wp _ _ _ a w→_› _ _ ?_;obtain⟨X6,hX6⟩:=nmm (Fl.row ⟨2,p.n,[],[],[],[],[]⟩ (Sn));have x6:Hc (w5.setCell ⟨w.heap.size+1,1,none⟩ (.int .i64 p.n)) (w.heap.size+1) X6 141:=by rw[←hX6];exact x6s
 have hX7:X6.size=7:=by rw[←hX6];rfl
 obtain⟨HX6,HX7⟩:=Cg hX6 hX7;clear hX6 hX7 x6s;generalize w5.setCell ⟨w.heap.size+1,1,none⟩ (.int .i64 p.n)=w6 at x6 m6 b6⊢;have ks:=gc p ⟨2,p.n,[],[],[],[],[]⟩ u (Sn) w6 (HU.out.below b6) (⟨none,0,rfl,ah _,fun h=>absurd rfl h⟩) (by omega) (by simp);rw[HP.out,HX6.out] at ks;have hAll:OK=(di p ⟨2,p.n,[],[],[],[],[]⟩&&decide (0≤p.n)&&(decide ((2:Int)≠2)||decide (p.n=1))):=by rw[←HOK.out];simp[bU,di,hop,Bool.and_assoc]
 obtain⟨B,hB⟩:=nmm (di p ⟨2,p.n,[],[],[],[],[]⟩);rw[hB] at ks hAll;have HALL:=hid hAll;clear hAll hB
 go_wp2_with (first|(refine bg rfl 141 (.tmp 1) rfl w.heap.size 141 _ (0,0) (by rfl) m6 _ Tryz.underlying141 rfl (by rw[HP2.out];rfl) ?_)|(refine bg rfl 141 (.tmp 3) rfl (w.heap.size+1) 141 _ (0,0) (by rfl) x6 _ Tryz.underlying141 rfl (by rw[HX7.out];rfl) ?_))
 refine ag ks ?_;rintro e w20 ⟨rfl,hb⟩;have m20:=bkk hb m6;have b20:=btt b6 hb;clear ks hb m6 x6 b6;have q0:w20.cell? ⟨w.heap.size,0,none⟩=some (.int .i64 2):=(aq m20 0).trans (by rw[←HP.out];simp[Fl.row,hop]);have q1:w20.cell? ⟨w.heap.size,1,none⟩=some (.int .i64 p.n):=(aq m20 1).trans (by rw[←HP.out];rfl);cases B
 ·go_wp2_with fail
  go_ret
  exact⟨by rw[HALL.out];rfl,b20⟩
 ·by_cases hn:0≤p.n
  ·have f0:decide (p.n≥0)=true:=aC hn
   have f1:decide (0≤p.n)=true:=aC hn
   by_cases h1:p.n=1
   ·have f2:(p.n==1)=true:=by simpa using h1
    have hO:OK=true:=by rw[HALL.out,f1,aC h1];rfl
    have HO:=hid hO;clear hO h1 HALL
    go_wp2_with fail
    go_ret
    exact⟨by rw[HO.out];rfl,b20⟩
   ·have f2:(p.n==1)=false:=aE h1
    have hO:OK=false:=by rw[HALL.out,f1,an h1];rfl
    have HO:=hid hO;clear hO h1 HALL
    go_wp2_with fail
    go_ret
    exact⟨by rw[HO.out];rfl,b20⟩
  ·have f0:decide (p.n≥0)=false:=an hn
   have f1:decide (0≤p.n)=false:=an hn;have hO:OK=false:=by rw[HALL.out,f1];rfl
   have HO:=hid hO;clear hO HALL
   go_wp2_with fail
   go_ret
   exact⟨by rw[HO.out];rfl,b20⟩
end Go.Proofs.YtfhghdcbofbceaaGreatDoor
