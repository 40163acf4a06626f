/- ElM, PlainTold, RdB. -/
import Derived.Deep.CutRange
import Derived.Test.YtfhghdcbofbceaaGreatDoorX11
namespace Go.Proofs.YtfhghdcbofbceaaGreatDoor
open Go.RowKit Go.Lib
set_option maxRecDepth 100000
set_option maxHeartbeats 16000000
def eQ(c:Ct):List El:=if c.crit then[.mk 0 1 false (blB true) []] else[]
def fP(c:Ct):List El:=if c.has then[.mk 0 4 false c.value []] else[]
def fQ(c:Ct):List El:=[.mk 0 4 false c.oid []]++eQ c++fP c
def ei(c:Ct):El:=.mk 0 16 true [] (fQ c)
def mn(m:Mg)(l:Ls):List El:=[.mk 0 2 false (sgB m.id.toNat) [],opE m l]++(if l.ctl=[] then[] else[.mk 2 0 true [] (l.ctl.map ei)])
def EY(m:Mg)(l:Ls):El:=.mk 0 16 true [] (mn m l)
theorem qf(c:Ct)(h:c.oid.length≤100000000∧c.value.length≤100000000):SmL (fQ c)∧(fQ c).length≤3:=by
 unfold fQ eQ fP
 constructor
 ·refine wP _ _ (wP _ _ ?_ ?_) ?_
  ·simp only[SmL,SmE];simp;omega
  ·split<;>simp[SmL,SmE,blB]
  ·split<;>simp only[SmL,SmE]<;>simp;omega
 ·split<;>split<;>simp
theorem kO:∀cl:List Ct,(∀c∈cl,c.oid.length≤100000000∧c.value.length≤100000000)→SmL (cl.map ei)
 |[],_=>by simp[SmL]
 |c::r,h=>by
  have h1:=qf c (h c (by simp));have h2:=kO r (fun x hx=>h x (by simp[hx]));simp only[List.map_cons,SmL,ei,SmE];exact⟨⟨by simp,by omega,h1.1⟩,h2⟩
def vd(w3:World)(cl:List Ct)(v i:Value)(wr:World):Prop:=
 ∃k:Nat,i=.int .i64 (k:Int)∧k≤cl.length∧bJ w3.heap.size wr v ((cl.take k).map ei)∧Bw w3 wr
theorem AT(m:Mg)(l:Ls)(w:World)(hm:MgM w m l)(hk:LsOk m l)(hid:0≤m.id∧m.id≤2147483647)(eo:El)(hso:SmE eo)
  (hop:∀w',Below w.heap.size w w'→Calls Tryz.prog 48 #[.agg m.row] w' fun e w''=>(∃u,e=.returned (.agg (elA eo u))∧bf (fun g=>w'.heap.size≤g) w'' u eo.kids)∧Below w'.heap.size w' w'')
  (K:List El) (hK:K=[.mk 0 2 false (sgB m.id.toNat) [],eo]++(if l.ctl=[] then[] else[.mk 2 0 true [] (l.ctl.map ei)])):
  Calls Tryz.prog 23 #[.agg m.row] w fun e w'=>(∃u,e=.returned (.agg (elA (.mk 0 16 true [] K) u))∧bf (fun g=>w.heap.size≤g) w' u K)∧Below w.heap.size w w':=by
 obtain⟨PR,hPR⟩:∃PR:Ending→World→Prop,PR=fun e w'=>(∃u,e=.returned (.agg (elA (.mk 0 16 true [] K) u))∧bf (fun g=>w.heap.size≤g) w' u K)∧Below w.heap.size w w':=⟨_,rfl⟩
 rw[←hPR]
 obtain⟨HPR,HKK,HOP⟩:=Ch hPR hK hop
 have hidn:m.id=(m.id.toNat:Int):=by omega
 have hidl:m.id.toNat≤2147483647:=by omega
 obtain⟨A,hA⟩:=nmm m.row
 obtain⟨ID,hID⟩:=nmm m.id.toNat
 have hA0:A[0]?=some (.int .i64 (ID:Int)):=by rw[←hA,←hID,←hidn];rfl
 obtain⟨ac,cc,hct,hcc,hcells⟩:=hm.ctl
 have hA27:A[27]?=some (.slice ac l.ctl.length cc):=by rw[←hA,←hct];rfl
 have hA28:A.size=28:=by rw[←hA];rfl
 have hlc:=hk.ctl
 have hcs:=hk.ctls
 have hsc:=kO l.ctl hcs
 rw[hA] at HOP⊢
 rw[hID] at hidl HKK
 obtain⟨HA0,HA27,HA28,HC,HCS,HSC,HSO⟩:=Ck hA0 hA27 hA28 hcells hcs hsc hso
 clear hPR hK hop hidn hA hID hA0 hct hcells hA27 hA28 hcs hsc hso hm hk hid
 have b1:Below w.heap.size w ((w.alloc (.cells A 32)).alloc (.cells #[.int .i64 0,.int .i64 0,.bool false,.string ⟨#[]⟩,.slice none 0 0] 40)):=((aA _ _).alloc (ah _) _).alloc (by simp) _
 have m1:Hc ((w.alloc (.cells A 32)).alloc (.cells #[.int .i64 0,.int .i64 0,.bool false,.string ⟨#[]⟩,.slice none 0 0] 40)) w.heap.size A 32:=(alloc_old _ _ _ (by simp)).trans (fb _ _ _ rfl)
 have t1:Hc ((w.alloc (.cells A 32)).alloc (.cells #[.int .i64 0,.int .i64 0,.bool false,.string ⟨#[]⟩,.slice none 0 0] 40)) (w.heap.size+1) #[.int .i64 0,.int .i64 0,.bool false,.string ⟨#[]⟩,.slice none 0 0] 40:=fb _ _ _ (by simp)
 go_enter Tryz.func23,Tryz.ntmps23
 go_upto_region 1 with fail
 generalize(w.alloc (.cells A 32)).alloc (.cells #[.int .i64 0,.int .i64 0,.bool false,.string ⟨#[]⟩,.slice none 0 0] 40)=w1 at b1 m1 t1⊢
 refine aR (S:=fun w'=>Hc w' w.heap.size A 32) (by kernel_rfl) ?_
 have T:Hc w1.drew w.heap.size A 32:=m1
 have D:Below w.heap.size w w1.drew:=b1.drew
 have R:Hc w1.drew (w.heap.size+1) #[.int .i64 0,.int .i64 0,.bool false,.string ⟨#[]⟩,.slice none 0 0] 40:=t1
 change wpAnyH _ _ _ _ _ _ _ _ w1.drew
 clear m1 b1 t1
 generalize w1.drew=w2 at T D R⊢
 refine pQ 0 (.pointer (some ⟨w.heap.size,0,none⟩)) rfl (by kernel_rfl) (by kernel_rfl) (by kernel_rfl) (fun _ _ _ h=>h) (by rfl) (fun w' hS=>by go_simp) T (kkn ?_)
 refine pQ 1 (.int .i64 (ID:Int)) rfl (by kernel_rfl) (by kernel_rfl) (by kernel_rfl) (fun _ _ _ h=>h) (by rfl) (fun w' hS=>by have q:=(aq hS 0).trans HA0.out;go_simp) T (kkn ?_)
 refine pQ 3 (.agg A) rfl (by kernel_rfl) (by kernel_rfl) (by kernel_rfl) (fun _ _ _ h=>h) (by rfl) (fun w' hS=>by exact cU 32 (.tmp 1) rfl w.heap.size 32 _ (0,0) (by rfl) hS _ Tryz.underlying32 rfl (by rw[HA28.out];rfl)) T (kkn ?_)
 have kc:=eO 2 ID hidl w2
 refine rn 2 (by kernel_rfl) rfl (by rfl) (fun K hK=>?_);go_simp;go_wp2_with fail
 refine ag kc ?_
 rintro e w3 ⟨rfl,hb⟩
 have T9:=(hb.block _ (Array.getElem?_eq_some_iff.1 T).1).trans T
 have D9:=btt D hb
 have R9:=(hb.block _ (Array.getElem?_eq_some_iff.1 R).1).trans R
 clear kc hb T D R
 have T:=T9
 have D:=D9
 have R:=R9
 clear T9 D9 R9
 refine hK _ _ T ?_;clear hK K
 have kc:=HOP.out w3 D
 refine rn 4 (by kernel_rfl) rfl (by rfl) (fun K hK=>?_);go_simp;go_wp2_with fail
 refine ag kc ?_
 rintro e w4 ⟨⟨uo,rfl,huo⟩,hb⟩
 have T9:=(hb.block _ (Array.getElem?_eq_some_iff.1 T).1).trans T
 have D9:=btt D hb
 have R9:=(hb.block _ (Array.getElem?_eq_some_iff.1 R).1).trans R
 clear kc hb T D R
 have T:=T9
 have D:=D9
 have R:=R9
 clear T9 D9 R9
 refine hK _ _ T ?_;clear hK K
 obtain⟨oc,ot,ok,ob,oks⟩:=eo
 obtain⟨ao,co,hso⟩:=huo.shape
 subst hso
 simp only[elA,El.cls,El.tag,El.cons,El.bytes,El.kids] at huo⊢
 have hb:Below w4.heap.size w4 (w4.alloc (.cells #[.int .i64 0,.int .i64 2,.bool false,.string ⟨(sgB ID).toArray⟩,.slice none 0 0,.int .i64 oc,.int .i64 ot,.bool ok,.string ⟨ob.toArray⟩,.slice ao oks.length co] 40)):=(aA _ _).alloc (ah _) _
 have x:Hc (w4.alloc (.cells #[.int .i64 0,.int .i64 2,.bool false,.string ⟨(sgB ID).toArray⟩,.slice none 0 0,.int .i64 oc,.int .i64 ot,.bool ok,.string ⟨ob.toArray⟩,.slice ao oks.length co] 40)) w4.heap.size #[.int .i64 0,.int .i64 2,.bool false,.string ⟨(sgB ID).toArray⟩,.slice none 0 0,.int .i64 oc,.int .i64 ot,.bool ok,.string ⟨ob.toArray⟩,.slice ao oks.length co] 40:=fb _ _ _ rfl
 have o5:bJ (w.heap.size+2) (w4.alloc (.cells #[.int .i64 0,.int .i64 2,.bool false,.string ⟨(sgB ID).toArray⟩,.slice none 0 0,.int .i64 oc,.int .i64 ot,.bool ok,.string ⟨ob.toArray⟩,.slice ao oks.length co] 40)) (.slice (some ⟨w4.heap.size,0,none⟩) 2 2) [.mk 0 2 false (sgB ID) [],.mk oc ot ok ob oks]:=
  bJ.flat (l:=[.mk 0 2 false (sgB ID) [],.mk oc ot ok ob oks]) (us:=[.slice none 0 0,.slice ao oks.length co]) x (by simp[cx,El.cls,El.tag,El.cons,El.bytes]) rfl (by have:=(Array.getElem?_eq_some_iff.1 R).1;omega) (by simp) (fun j e u q1 q2=>by
   have h3:j=0∨j=1:=by have h9:=(List.getElem?_eq_some_iff.1 q1).1;simp at h9;omega
   rcases h3 with rfl|rfl
   ·simp at q1 q2;subst q1;subst q2;exact bf.no _ _ _ _
   ·simp at q1 q2;subst q1;subst q2;exact huo.kept fun g hg hl=>⟨hb.block g hl,fun h=>by cases h;omega⟩)
 have T9:=(hb.block _ (Array.getElem?_eq_some_iff.1 T).1).trans T
 have D9:=btt D hb
 have R9:=(hb.block _ (Array.getElem?_eq_some_iff.1 R).1).trans R
 clear hb x T D R huo
 have O5:=Lib.hid o5
 clear o5
 refine rn 5 (by kernel_rfl) rfl (by rfl) (kks T9 ?_)
 generalize w4.alloc (.cells #[.int .i64 0,.int .i64 2,.bool false,.string ⟨(sgB ID).toArray⟩,.slice none 0 0,.int .i64 oc,.int .i64 ot,.bool ok,.string ⟨ob.toArray⟩,.slice ao oks.length co] 40)=w5 at T9 D9 R9 O5⊢
 generalize w4.heap.size=y at O5⊢
 refine rn 6 (by kernel_rfl) rfl (by rfl) (kks T9 ?_)
 refine xk (by kernel_rfl) ?_ _
 try simp only[Exit.then]
 refine‹∀(a:Act) (w:World),Code.wp _ _ _ a w→_› _ _ ?_
 have q27:=(aq T9 27).trans HA27.out
 have hn5:=(Array.getElem?_eq_some_iff.1 R9).1
 obtain⟨HT,HR,HD⟩:=Ch T9 R9 D9
 clear T9 R9 D9
 go_wp2_with fail
 clear q27
 go_loopw [4,6,7,17] (fun s4 _ _ s17 wr=>vd w5 l.ctl s4 s17 wr) (fun _ _ _ i _=>l.ctl.length -(RowKit.intOf i).toNat)
 case atStart=>exact⟨0,rfl,Nat.zero_le _,bJ.nil _ _,aA _ _⟩
 case round=>
  obtain⟨k,rfl,hk,ho,hbe⟩:=hrel
  obtain⟨a4,c4,hos⟩:=ho.shape
  subst hos
  have hlen:((l.ctl.take k).map ei).length=k:=by simp;omega
  rw[hlen] at ho⊢
  by_cases hkl:k<l.ctl.length
  ·obtain⟨c,hcx⟩:∃c,l.ctl[k]?=some c:=⟨_,by simp[hkl];rfl⟩
   obtain⟨g,o,ha,hcell⟩:=HC.out (by intro h0;rw[h0] at hkl;simp at hkl)
   subst ha
   obtain⟨p0,p1,p2,p3⟩:=hcell k c hcx
   have hall:=HD.out.trans (hbe.mono HD.out.size)
   have q0:=(hall.cell (bj p0)).trans p0
   have q1:=(hall.cell (bj p1)).trans p1
   have q2:=(hall.cell (bj p2)).trans p2
   have q3:=(hall.cell (bj p3)).trans p3
   have hmem:c∈l.ctl:=List.mem_of_getElem? hcx
   obtain⟨hl1,hl2⟩:=HCS.out c hmem
   have hts:(l.ctl.take (k+1)).map ei=(l.ctl.take k).map ei++[ei c]:=by rw[List.take_add_one,hcx];simp
   have HTS:=Lib.hid hts
   have i1:decide ((k:Int)<(l.ctl.length:Int))=true:=aC (by omega)
   have i2:(k:Int)<(l.ctl.length:Int):=by omega
   obtain⟨LL,hLL⟩:=nmm ((l.ctl.take k).map ei)
   rw[hLL] at ho hlen HTS
   obtain⟨HO,HLEN⟩:=Cg ho hlen
   have hsz:=hbe.size
   have HBE:=Lib.hid hbe
   clear hcell hcx hall hmem hts hLL p0 p1 p2 p3 ho hlen hbe
   obtain⟨C,hC⟩:=nmm (#[.string ⟨c.oid.toArray⟩,.bool c.crit,.bool c.has,.string ⟨c.value.toArray⟩]:Array Value)
   have HCC:=Lib.hid hC
   clear hC
   have n1:Below wr.heap.size wr (wr.alloc (.cells C 83)):=(aA _ _).alloc (ah _) _
   have y1:Hc (wr.alloc (.cells C 83)) wr.heap.size C 83:=fb _ _ _ rfl
   go_upto_region 6 with fail
   rw[HCC.out]
   clear q0 q1 q2 q3
   obtain⟨Y,hY⟩:=nmm wr.heap.size
   have HY:=Lib.hid hY
   rw[hY] at n1 y1⊢
   clear hY
   have g0:(wr.alloc (.cells C 83)).cell? ⟨Y,0,none⟩=some (.string ⟨c.oid.toArray⟩):=(aq y1 0).trans (by rw[←HCC.out];rfl)
   generalize wr.alloc (.cells C 83)=w11 at n1 y1 g0⊢
   have kc:=bz c.oid w11
   go_wp2_with fail
   refine ag kc ?_
   rintro e w12 ⟨rfl,hb⟩
   have n2:=n1.trans (hb.mono (by have h1:=n1.size;have h2:=HY.out;omega))
   have y2:=(hb.block _ (Array.getElem?_eq_some_iff.1 y1).1).trans y1
   clear kc hb n1 y1 g0
   simp only[elA,El.cls,El.tag,El.cons,El.bytes]
   have hb:Below w12.heap.size w12 (w12.alloc (.cells #[.int .i64 0,.int .i64 4,.bool false,.string ⟨c.oid.toArray⟩,.slice none 0 0] 40)):=(aA _ _).alloc (ah _) _
   have x:Hc (w12.alloc (.cells #[.int .i64 0,.int .i64 4,.bool false,.string ⟨c.oid.toArray⟩,.slice none 0 0] 40)) w12.heap.size #[.int .i64 0,.int .i64 4,.bool false,.string ⟨c.oid.toArray⟩,.slice none 0 0] 40:=fb _ _ _ rfl
   have o3:bJ (Y+1) (w12.alloc (.cells #[.int .i64 0,.int .i64 4,.bool false,.string ⟨c.oid.toArray⟩,.slice none 0 0] 40)) (.slice (some ⟨w12.heap.size,0,none⟩) 1 1) [.mk 0 4 false c.oid []]:=
    bJ.flat (l:=[.mk 0 4 false c.oid []]) (us:=[.slice none 0 0]) x (by simp[cx,El.cls,El.tag,El.cons,El.bytes]) rfl (by have:=(Array.getElem?_eq_some_iff.1 y2).1;omega) (by simp) (fun j e u q1 q2=>by
     have h3:j=0:=by have h9:=(List.getElem?_eq_some_iff.1 q1).1;simp at h9;omega
     subst h3
     simp at q1 q2;subst q1;subst q2;exact bf.no _ _ _ _)
   have n3:=n2.trans (hb.mono (by have h1:=n2.size;have h2:=HY.out;omega))
   have y3:=(hb.block _ (Array.getElem?_eq_some_iff.1 y2).1).trans y2
   clear hb x n2 y2
   go_upto_region 7 with fail
   generalize w12.alloc (.cells #[.int .i64 0,.int .i64 4,.bool false,.string ⟨c.oid.toArray⟩,.slice none 0 0] 40)=w13 at n3 y3 o3⊢
   generalize w12.heap.size=yb at o3⊢
   obtain⟨CR,hCR⟩:=nmm c.crit
   have g1:w13.cell? ⟨Y,1,none⟩=some (.bool CR):=(aq y3 1).trans (by rw[←HCC.out,←hCR];rfl)
   have HCR:=Lib.hid hCR
   clear hCR
   go_upto_if 26 with fail
   clear g1
   go_cut [7] from 27 to 30 (fun s7 wx=>bJ (Y+1) wx s7 ([.mk 0 4 false c.oid []]++eQ c)∧Hc wx Y C 83∧Below Y wr wx)
   case first=>
    rcases CR.eq_false_or_eq_true with hcr|hcr
    rotate_left
    ·subst hcr
     have hl:eQ c=[]:=by simp[eQ,HCR.out]
     go_wp2_with fail
     go_meet
     exact⟨by rw[hl];exact o3,y3,n3⟩
    ·subst hcr
     have hl:eQ c=[.mk 0 1 false (blB true) []]:=by simp[eQ,HCR.out]
     have HL:=Lib.hid hl
     clear hl
     have kc:=iS 1 true w13
     go_wp2_with fail
     refine ag kc ?_
     rintro e w14 ⟨⟨u,rfl,hu⟩,hb⟩
     obtain⟨ae,ce,rfl⟩:=hu.empty
     have y4:=(hb.block _ (Array.getElem?_eq_some_iff.1 y3).1).trans y3
     have n4:=n3.trans (hb.mono (by have h1:=n3.size;have h2:=HY.out;omega))
     have o4:=o3.below hb
     clear kc hb hu y3 n3 o3
     simp only[elA,El.cls,El.tag,El.cons,El.bytes]
     have hb:Below w14.heap.size w14 (w14.alloc (.cells #[.int .i64 0,.int .i64 1,.bool false,.string ⟨(blB true).toArray⟩,.slice ae 0 ce] 40)):=(aA _ _).alloc (ah _) _
     have x:Hc (w14.alloc (.cells #[.int .i64 0,.int .i64 1,.bool false,.string ⟨(blB true).toArray⟩,.slice ae 0 ce] 40)) w14.heap.size (elA (.mk 0 1 false (blB true) []) (.slice ae 0 ce)) 40:=fb _ _ _ rfl
     have y5:=(hb.block _ (Array.getElem?_eq_some_iff.1 y4).1).trans y4
     have n5:=n4.trans (hb.mono (by have h1:=n4.size;have h2:=HY.out;omega))
     have o5:=o4.below hb
     have hs5:Y≤_:=(by have h1:=n5.size;have h2:=HY.out;omega:Y≤(w14.alloc (.cells #[.int .i64 0,.int .i64 1,.bool false,.string ⟨(blB true).toArray⟩,.slice ae 0 ce] 40)).heap.size)
     have z5:=(Array.getElem?_eq_some_iff.1 y5).1
     obtain⟨Y5,N5,OX5,X5⟩:=Ci y5 n5 o5 x
     clear hb x y4 n4 o4 y5 n5 o5
     go_wp2_with (at_builtin;refine bO rfl (.tmp 27) (.tmp 29) rfl (Y+1) (.slice (some ⟨yb,0,none⟩) 1 1) [.mk 0 4 false c.oid []] (by rfl) OX5.out (.mk 0 1 false (blB true) []) ae 0 ce w14.heap.size rfl X5.out (bf.no _ _ _ _) (by simp) (by omega) ?_;intro a10 c10 w10 o10 hg;have y10:=(hg.block Y z5 (fun h=>by have:=(OX5.out.lt h.symm).1;omega)).trans Y5.out;have n10:=N5.out.grown hg hs5 (fun b hb=>by have:=(OX5.out.lt hb).1;omega);clear hg hs5 z5 Y5 N5 OX5 X5)
     go_meet
     exact⟨by rw[HL.out];exact o10,y10,n10⟩
   case rest=>
    clear o3 y3 n3
    obtain⟨o3,y3,n3⟩:=hcut
    obtain⟨a7,c7,hs7⟩:=o3.shape
    subst hs7
    obtain⟨L7,hL7⟩:=nmm ([.mk 0 4 false c.oid []]++eQ c:List El)
    have hl7:L7.length≤2:=by rw[←hL7];unfold eQ;split<;>simp
    rw[hL7] at o3⊢
    have HL7:=Lib.hid hL7
    clear hL7
    obtain⟨w13',hw13⟩:∃w',wc=w':=⟨_,rfl⟩
    rw[hw13] at o3 y3 n3⊢
    clear hw13
    obtain⟨HS,hHS⟩:=nmm c.has
    have g2:w13'.cell? ⟨Y,2,none⟩=some (.bool HS):=(aq y3 2).trans (by rw[←HCC.out,←hHS];rfl)
    have HHS:=Lib.hid hHS
    clear hHS
    go_upto_if 32 with fail
    clear g2
    go_cut [7] from 33 to 38 (fun s7 wx=>bJ (Y+1) wx s7 (L7++fP c)∧Hc wx Y C 83∧Below Y wr wx)
    case first=>
     rcases HS.eq_false_or_eq_true with hcr|hcr
     rotate_left
     ·subst hcr
      have hl:fP c=[]:=by simp[fP,HHS.out]
      go_wp2_with fail
      go_meet
      exact⟨by rw[hl,List.append_nil];exact o3,y3,n3⟩
     ·subst hcr
      have hl:fP c=[.mk 0 4 false c.value []]:=by simp[fP,HHS.out]
      have HL:=Lib.hid hl
      clear hl
      have g3:w13'.cell? ⟨Y,3,none⟩=some (.string ⟨c.value.toArray⟩):=(aq y3 3).trans (by rw[←HCC.out];rfl)
      have kc:=bz c.value w13'
      go_wp2_with fail
      refine ag kc ?_
      rintro e w14 ⟨rfl,hb⟩
      have y4:=(hb.block _ (Array.getElem?_eq_some_iff.1 y3).1).trans y3
      have n4:=n3.trans (hb.mono (by have h1:=n3.size;have h2:=HY.out;omega))
      have o4:=o3.below hb
      clear kc hb y3 n3 o3 g3
      simp only[elA,El.cls,El.tag,El.cons,El.bytes]
      have hb:Below w14.heap.size w14 (w14.alloc (.cells #[.int .i64 0,.int .i64 4,.bool false,.string ⟨c.value.toArray⟩,.slice none 0 0] 40)):=(aA _ _).alloc (ah _) _
      have x:Hc (w14.alloc (.cells #[.int .i64 0,.int .i64 4,.bool false,.string ⟨c.value.toArray⟩,.slice none 0 0] 40)) w14.heap.size (elA (.mk 0 4 false c.value []) (.slice none 0 0)) 40:=fb _ _ _ rfl
      have y5:=(hb.block _ (Array.getElem?_eq_some_iff.1 y4).1).trans y4
      have n5:=n4.trans (hb.mono (by have h1:=n4.size;have h2:=HY.out;omega))
      have o5:=o4.below hb
      have hs5:Y≤_:=(by have h1:=n5.size;have h2:=HY.out;omega:Y≤(w14.alloc (.cells #[.int .i64 0,.int .i64 4,.bool false,.string ⟨c.value.toArray⟩,.slice none 0 0] 40)).heap.size)
      have z5:=(Array.getElem?_eq_some_iff.1 y5).1
      obtain⟨Y5,N5,OX5,X5⟩:=Ci y5 n5 o5 x
      clear hb x y4 n4 o4 y5 n5 o5
      go_wp2_with (at_builtin;refine bO rfl (.tmp 33) (.tmp 37) rfl (Y+1) (.slice a7 L7.length c7) L7 (by rfl) OX5.out (.mk 0 4 false c.value []) none 0 0 w14.heap.size rfl X5.out (bf.no _ _ _ _) (by omega) (by omega) ?_;intro a10 c10 w10 o10 hg;have y10:=(hg.block Y z5 (fun h=>by have:=(OX5.out.lt h.symm).1;omega)).trans Y5.out;have n10:=N5.out.grown hg hs5 (fun b hb=>by have:=(OX5.out.lt hb).1;omega);clear hg hs5 z5 Y5 N5 OX5 X5)
      go_meet
      exact⟨by rw[HL.out];exact o10,y10,n10⟩
    case rest=>
     clear o3 y3 n3
     obtain⟨o3,-,n3⟩:=hcut
     have hLK:L7++fP c=fQ c:=by rw[←HL7.out];rfl
     rw[hLK] at o3
     obtain⟨a8,c8,hs8⟩:=o3.shape
     subst hs8
     obtain⟨hsk,hsl⟩:=qf c ⟨hl1,hl2⟩
     obtain⟨w15,hw15⟩:∃w',wc=w':=⟨_,rfl⟩
     rw[hw15] at o3 n3⊢
     have kc:=cH (fQ c) _ w15 o3.kids hsk (by omega)
     have hoo:bJ w5.heap.size w15 (.slice a4 k c4) LL:=by
      have n3':Below wr.heap.size wr w15:=by rw[HY.out];exact n3
      exact HO.out.below n3'
     clear o3 hLK hw15 hsk
     go_wp2_with fail
     refine ag kc ?_
     rintro e w16 ⟨⟨u,rfl,hu⟩,hb⟩
     obtain⟨ae,ce,hse⟩:=hu.shape
     subst hse
     have n6:=n3.trans (hb.mono (by have h1:=n3.size;have h2:=HY.out;omega))
     have o6:=hoo.below hb
     have hs16:=hb.size
     have hz15:=n3.size
     clear kc hb n3 hoo
     simp only[elA,El.cls,El.tag,El.cons,El.bytes]
     have hb:Below w16.heap.size w16 (w16.alloc (.cells #[.int .i64 0,.int .i64 16,.bool true,.string ⟨#[]⟩,.slice ae (fQ c).length ce] 40)):=(aA _ _).alloc (ah _) _
     have x:Hc (w16.alloc (.cells #[.int .i64 0,.int .i64 16,.bool true,.string ⟨#[]⟩,.slice ae (fQ c).length ce] 40)) w16.heap.size (elA (ei c) (.slice ae (fQ c).length ce)) 40:=fb _ _ _ rfl
     have hu7:bf (fun g=>(Value.slice a4 k c4).ownBlock≠some g) (w16.alloc (.cells #[.int .i64 0,.int .i64 16,.bool true,.string ⟨#[]⟩,.slice ae (fQ c).length ce] 40)) (.slice ae (fQ c).length ce) (ei c).kids:=hu.kept fun g hg hl=>⟨hb.block g hl,fun h=>by have h1:=(HO.out.lt h).2;have h2:=n6.size;have h3:=HY.out;have h4:w15.heap.size≤g:=hg;omega⟩
     have n7:=n6.trans (hb.mono (by have h1:=n6.size;have h2:=HY.out;omega))
     have o7:=o6.below hb
     obtain⟨N7,OX7,X7,U7⟩:=Ci n7 o7 x hu7
     have hz7:=n7.size
     clear hb x n6 o6 n7 o7 hu7 hu
     go_wp2_with (at_builtin;refine bO rfl (.tmp 39) (.tmp 42) rfl w5.heap.size (.slice a4 k c4) LL (by rfl) OX7.out (ei c) ae (fQ c).length ce w16.heap.size rfl X7.out U7.out (by rw[HLEN.out];omega) (by have:=HY.out;omega) ?_;intro a10 c10 w10 o10 hg)
     rw[HLEN.out] at o10⊢
     have hfin:Below w5.heap.size w5 w10:=by
      have h1:Below w5.heap.size w5 (w16.alloc (.cells #[.int .i64 0,.int .i64 16,.bool true,.string ⟨#[]⟩,.slice ae (fQ c).length ce] 40)):=HBE.out.trans (N7.out.mono (by have:=HY.out;omega))
      exact h1.grown hg h1.size (fun b hb=>(OX7.out.lt hb).1)
     exact⟨⟨k+1,by go_num,by omega,by rw[HTS.out];exact o10,hfin⟩,by simp[RowKit.intOf];omega⟩
  ·obtain rfl:k=l.ctl.length:=by omega
   rw[List.take_of_length_le (ah _)] at ho hlen
   have t5:=(hbe.block _ hn5).trans HR.out
   have b5:=HD.out.trans (hbe.mono HD.out.size)
   have o5:=O5.out.below hbe
   have hsz:=hbe.size
   have lt3:∀g,(Value.slice (some ⟨y,0,none⟩) 2 2).ownBlock=some g→w.heap.size+2≤g∧g<w5.heap.size:=fun g hg=>O5.out.lt hg
   obtain⟨w6,hw6⟩:∃w',wr=w':=⟨_,rfl⟩
   rw[hw6] at ho t5 b5 o5 hsz⊢
   clear hw6 hbe
   by_cases hz:l.ctl=[]
   ·have hKn:K=[.mk 0 2 false (sgB ID) [],.mk oc ot ok ob oks]:=by rw[HKK.out,if_pos hz,List.append_nil]
    have hl0:l.ctl.length=0:=by rw[hz];rfl
    rw[hl0]
    have kc:=cH [.mk 0 2 false (sgB ID) [],.mk oc ot ok ob oks] _ w6 o5.kids (by have h1:=HSO.out;have h2:=(eg ID).2;simp only[SmL];exact⟨by simp[SmE,SmL];omega,h1,trivial⟩) (by simp)
    rw[←hKn] at kc
    have HKN:=Lib.hid hKn
    clear ho o5 hz hKn hl0
    go_wp2_with fail
    refine ag kc ?_
    rintro e w7 ⟨⟨u,rfl,hu⟩,hb⟩
    have t7:=(hb.block _ (Array.getElem?_eq_some_iff.1 t5).1).trans t5
    have b7:=btt b5 hb
    clear kc hb t5 b5
    obtain⟨E,hE⟩:=nmm (elA (.mk 0 16 true [] K) u)
    have hE1:E.all (·.oneCell')=true:=by
     obtain⟨a,c,hsl⟩:=hu.shape
     subst hsl
     rw[←hE];simp[elA,Value.oneCell']
    have hE2:E.size=5:=by rw[←hE];rfl
    rw[hE]
    have bF:=xo b7 (g:=w.heap.size+1) (by omega) E
    have tF:=setRow_heap w7 (w.heap.size+1) _ E _ _ t7
    have uF:bf (fun g=>w.heap.size≤g) (w7.setRow (w.heap.size+1) E) u K:=hu.kept fun g hg hl=>⟨setRow_other w7 (w.heap.size+1) g E (by omega),by omega⟩
    obtain⟨HE,HE1,HE2,UF⟩:=Ci hE hE1 hE2 uF
    clear hu hE hE1 hE2 uF b7
    go_wp2_with (refine stE (.tmp 2) (.tmp 55) E t7 HE2.out HE1.out ?_)
    refine aH (v:=.agg E) ?_ rfl (by rw[HPR.out];exact⟨⟨u,by rw[HE.out],UF.out⟩,bF⟩)
    have hr:=rlE tF HE2.out
    simp[results,Tryz.f23]
    exact hr
   ·have hKn:K=[.mk 0 2 false (sgB ID) [],.mk oc ot ok ob oks]++[.mk 2 0 true [] (l.ctl.map ei)]:=by rw[HKK.out,if_neg hz]
    have hpos:0<l.ctl.length:=List.length_pos_iff.2 hz
    have i1:decide ((l.ctl.length:Int)>0)=true:=aC (by omega)
    have i2:decide ((0:Int)<(l.ctl.length:Int))=true:=aC (by omega)
    have i3:(0:Int)<(l.ctl.length:Int):=by omega
    have HKN:=Lib.hid hKn
    clear hz hKn
    have kc:=cH (l.ctl.map ei) _ w6 ho.kids HSC.out (by simp;omega)
    clear ho
    go_wp2_with fail
    refine ag kc ?_
    rintro e w7 ⟨⟨u,rfl,hu⟩,hb⟩
    have t7:=(hb.block _ (Array.getElem?_eq_some_iff.1 t5).1).trans t5
    have b7:=btt b5 hb
    have o7:=o5.below hb
    have hsz7:=hb.size
    clear kc hb t5 b5 o5
    have kc:=BY (.mk 0 16 true [] (l.ctl.map ei)) u 0 w7 (hu.mono (fun _ _ _=>trivial)) (by simp only[SmE,List.length_map];exact⟨by simp,by omega,HSC.out⟩)
    simp only[El.cons,El.bytes,El.kids] at kc
    clear hu
    go_wp2_with fail
    refine ag kc ?_
    rintro e w8 ⟨⟨u2,rfl,hu2⟩,hb⟩
    obtain⟨ae,ce,hse⟩:=hu2.shape
    simp only[List.length_map] at hse
    subst hse
    have t8:=(hb.block _ (Array.getElem?_eq_some_iff.1 t7).1).trans t7
    have b8:=btt b7 hb
    have o8:=o7.below hb
    clear kc hb t7 b7 o7
    simp only[elA,El.cls,El.tag,El.cons,El.bytes]
    have hb:Below w8.heap.size w8 (w8.alloc (.cells #[.int .i64 2,.int .i64 0,.bool true,.string ⟨#[]⟩,.slice ae l.ctl.length ce] 40)):=(aA _ _).alloc (ah _) _
    have x:Hc (w8.alloc (.cells #[.int .i64 2,.int .i64 0,.bool true,.string ⟨#[]⟩,.slice ae l.ctl.length ce] 40)) w8.heap.size (elA (.mk 2 0 true [] (l.ctl.map ei)) (.slice ae l.ctl.length ce)) 40:=fb _ _ _ rfl
    have hu9:bf (fun g=>(Value.slice (some ⟨y,0,none⟩) 2 2).ownBlock≠some g) (w8.alloc (.cells #[.int .i64 2,.int .i64 0,.bool true,.string ⟨#[]⟩,.slice ae l.ctl.length ce] 40)) (.slice ae l.ctl.length ce) (l.ctl.map ei):=hu2.kept fun g hg hl=>⟨hb.block g hl,fun h=>by have h1:=(lt3 g h).2;have h4:w7.heap.size≤g:=hg;omega⟩
    have t9:=(hb.block _ (Array.getElem?_eq_some_iff.1 t8).1).trans t8
    have b9:=btt b8 hb
    have o9:=o8.below hb
    have hs9:=b9.size
    have z9:=(Array.getElem?_eq_some_iff.1 t9).1
    obtain⟨T9,B9,O9,X9,U9⟩:=Cj t9 b9 o9 x hu9
    clear hb x t8 b8 o8 t9 b9 o9 hu2 hu9
    go_wp2_with (at_builtin;refine bO rfl (.tmp 48) (.tmp 52) rfl (w.heap.size+2) (.slice (some ⟨y,0,none⟩) 2 2) [.mk 0 2 false (sgB ID) [],.mk oc ot ok ob oks] (by rfl) O9.out (.mk 2 0 true [] (l.ctl.map ei)) ae l.ctl.length ce w8.heap.size rfl X9.out U9.out (by simp) (by omega) ?_;intro a10 c10 w10 o10 hg;have t10:=(hg.block (w.heap.size+1) z9 (fun h=>by have:=(O9.out.lt h.symm).1;omega)).trans T9.out;have b10:=B9.out.grown hg hs9 (fun b hb=>by have:=(O9.out.lt hb).1;omega);clear hg hs9 z9 T9 B9 O9 X9 U9)
    rw[←HKN.out] at o10
    have kc:=cH K _ w10 o10.kids (by
     have h1:=HSO.out
     have h2:=(eg ID).2
     rw[HKN.out]
     simp only[List.cons_append,List.nil_append,SmL]
     exact⟨by simp[SmE,SmL];omega,h1,by simp only[SmE,List.length_map];exact⟨by simp,by omega,HSC.out⟩,trivial⟩) (by rw[HKN.out];simp)
    clear o10
    simp only[aG,aU,Nat.zero_add,Nat.reduceAdd] at kc⊢
    go_wp2_with fail
    refine ag kc ?_
    rintro e w7 ⟨⟨u,rfl,hu⟩,hb⟩
    have t7:=(hb.block _ (Array.getElem?_eq_some_iff.1 t10).1).trans t10
    have b7:=btt b10 hb
    have hsz:=b10.size
    have hn5:=(Array.getElem?_eq_some_iff.1 t10).1
    clear kc hb t10 b10
    obtain⟨E,hE⟩:=nmm (elA (.mk 0 16 true [] K) u)
    have hE1:E.all (·.oneCell')=true:=by
     obtain⟨a,c,hsl⟩:=hu.shape
     subst hsl
     rw[←hE];simp[elA,Value.oneCell']
    have hE2:E.size=5:=by rw[←hE];rfl
    rw[hE]
    have bF:=xo b7 (g:=w.heap.size+1) (by omega) E
    have tF:=setRow_heap w7 (w.heap.size+1) _ E _ _ t7
    have uF:bf (fun g=>w.heap.size≤g) (w7.setRow (w.heap.size+1) E) u K:=hu.kept fun g hg hl=>⟨setRow_other w7 (w.heap.size+1) g E (by omega),by omega⟩
    obtain⟨HE,HE1,HE2,UF⟩:=Ci hE hE1 hE2 uF
    clear hu hE hE1 hE2 uF b7
    go_wp2_with (refine stE (.tmp 2) (.tmp 55) E t7 HE2.out HE1.out ?_)
    refine aH (v:=.agg E) ?_ rfl (by rw[HPR.out];exact⟨⟨u,by rw[HE.out],UF.out⟩,bF⟩)
    have hr:=rlE tF HE2.out
    simp[results,Tryz.f23]
    exact hr
def ch:List El→Option (El×List El)
 |[]=>none
 |e::r=>some (e,r)
def dK(e:El)(c t:Int):Option (List UInt8):=if isE e c t false then some e.bytes else none
def fW(e:El)(c t:Int):Option Int:=if(gA e c t).2=0 then some (gA e c t).1 else none
def ci(e:El)(c t:Int):Option (List El):=if isE e c t true then some e.kids else none
def gT(e:El):Option Bool:=if isE e 0 1 false&&decide (e.bytes.length=1) then some (decide (e.bytes.headD 0≠0)) else none
def bS{α:Type}(g:El→Option α)(l:List El):Option (α×List El):=(ch l).bind fun x=>(g x.1).map fun a=>(a,x.2)
def cg(l:List El):Option (List UInt8×List El):=bS (fun e=>dK e 0 4) l
def eR(t:Int)(l:List El):Option (Int×List El):=bS (fun e=>fW e 0 t) l
def fm(l:List El):Option (Bool×List El):=bS gT l
def da(c t:Int):List El→Bool
 |[]=>false
 |e::_=>decide (e.cls=c)&&decide (e.tag=t)
def eS(t:Int)(l:List El):Option ((List UInt8×Bool)×List El):=
 if da 2 t l then(bS (fun e=>dK e 2 t) l).map fun x=>((x.1,true),x.2) else some (([],false),l)
def dN:List El→Option (List (List UInt8))
 |[]=>some []
 |e::r=>(dK e 0 4).bind fun s=>(dN r).map fun t=>s::t
def bN{α:Type}(x:α)(l:List El):Option α:=if l=[] then some x else none
def dO(e:El):Option (List UInt8×List (List UInt8)):=
 (ci e 0 16).bind fun r=>(cg r).bind fun a=>(bS (fun e=>ci e 0 17) a.2).bind fun b=>(dN b.1).bind fun vs=>bN (a.1,vs) b.2
def ev{α:Type}(g:El→Option α):List El→Option (List α)
 |[]=>some []
 |e::r=>(g e).bind fun x=>(ev g r).map fun t=>x::t
def ft(e:El):Option Md:=
 (ci e 0 16).bind fun r=>(eR 10 r).bind fun n=>(bS dO n.2).bind fun a=>bN (n.1,a.1) a.2
def AR(e:El):Option Ct:=
 (ci e 0 16).bind fun r=>(cg r).bind fun o=>(if da 0 1 o.2 then fm o.2 else some (false,o.2)).bind fun c=>
  (if c.2=[] then some (([],false),[]) else(cg c.2).map fun s=>((s.1,true),s.2)).bind fun v=>bN ⟨o.1,c.1,v.1.2,v.1.1⟩ v.2
def df(t:Int)(l:List El):Option (List UInt8×List El):=(bS (fun e=>dK e 2 t) l).bind fun s=>if s.1=[] then none else some s
def dT:Nat→List El→Option (List (List UInt8)×List El)
 |0,l=>some ([],l)
 |n+1,l=>if da 2 1 l then(df 1 l).bind fun s=>(dT n s.2).map fun x=>(s.1::x.1,x.2) else some ([],l)
def fe(l:List El):Option (List UInt8×List (List UInt8)×List UInt8):=
 (if da 2 0 l then df 0 l else some ([],l)).bind fun i=>(dT i.2.length i.2).bind fun a=>
  (if da 2 2 a.2 then df 2 a.2 else some ([],a.2)).bind fun f=>bN (i.1,a.1,f.1) f.2
mutual
def eD:El→Option (List Fl)
 | .mk c t k b ks=>
  if t=0∨t=1∨t=2 then(if isE (.mk c t k b ks) 2 t true then(en ks).map fun f=>⟨t,ks.length,[],[],[],[],[]⟩::f else none)
  else if t=7 then(dK (.mk c t k b ks) 2 7).map fun s=>[⟨7,0,s,[],[],[],[]⟩]
  else if t=4 then(ci (.mk c t k b ks) 2 4).bind fun r=>(cg r).bind fun a=>(bS (fun e=>ci e 0 16) a.2).bind fun p=>(fe p.1).bind fun x=>bN [⟨4,0,a.1,[],x.1,x.2.2,x.2.1⟩] p.2
  else(ci (.mk c t k b ks) 2 t).bind fun r=>(cg r).bind fun a=>(cg a.2).bind fun v=>bN [⟨t,0,a.1,v.1,[],[],[]⟩] v.2
def en:List El→Option (List Fl)
 |[]=>some []
 |e::r=>(eD e).bind fun a=>(en r).map fun b=>a++b
end
def gU(id:Int)(l:List El):Option ((Mg×Ls)×List El):=
 (eR 2 l).bind fun v=>(cg v.2).bind fun d=>(eS 0 d.2).bind fun s=>
  if s.1.2 then some (({id:=id,op:=0,ver:=v.1,dn:=d.1,secret:=s.1.1},{}),s.2)
  else(bS (fun e=>ci e 2 3) s.2).bind fun k=>(cg k.1).bind fun t=>(if t.2=[] then some [] else(cg t.2).map fun u=>u.2).bind fun z=>
   bN (({id:=id,op:=0,ver:=v.1,dn:=d.1,sasl:=true,secret:=t.1},{}),k.2) z
def fG(id:Int)(l:List El):Option ((Mg×Ls)×List El):=
 (cg l).bind fun d=>(eR 10 d.2).bind fun s=>(eR 10 s.2).bind fun r=>(eR 2 r.2).bind fun z=>(eR 2 z.2).bind fun t=>(fm t.2).bind fun y=>
  (bS eD y.2).bind fun f=>(bS (fun e=>ci e 0 16) f.2).bind fun k=>(dN k.1).map fun a=>
   (({id:=id,op:=3,dn:=d.1,scope:=s.1,deref:=r.1,size:=z.1,time:=t.1,types:=y.1},{filt:=f.1,sel:=a}),k.2)
def m0{α:Type}(g:El→Option α)(e:El):Option (List α):=(ci e 0 16).bind fun k=>ev g k
def fH(id:Int)(l:List El):Option ((Mg×Ls)×List El):=
 (cg l).bind fun d=>(bS (m0 ft) d.2).map fun x=>(({id:=id,op:=6,dn:=d.1},{mods:=x.1}),x.2)
def fh(id op:Int)(l:List El):Option ((Mg×Ls)×List El):=
 (cg l).bind fun d=>(bS (m0 dO) d.2).map fun x=>(({id:=id,op:=op,dn:=d.1},{attrs:=x.1}),x.2)
def gV(id:Int)(l:List El):Option ((Mg×Ls)×List El):=
 (cg l).bind fun d=>(cg d.2).bind fun n=>(fm n.2).bind fun y=>(eS 0 y.2).map fun s=>(({id:=id,op:=12,dn:=d.1,newRdn:=n.1,delOld:=y.1,hasSup:=s.1.2,newSup:=s.1.1},{}),s.2)
def eZ(id:Int)(l:List El):Option ((Mg×Ls)×List El):=
 (cg l).bind fun d=>(bS (fun e=>ci e 0 16) d.2).bind fun k=>(cg k.1).bind fun t=>(cg t.2).bind fun v=>bN (({id:=id,op:=14,dn:=d.1,typ:=t.1,value:=v.1},{}),k.2) v.2
def fI(id:Int)(l:List El):Option ((Mg×Ls)×List El):=
 (bS (fun e=>dK e 2 0) l).bind fun o=>(eS 1 o.2).map fun v=>(({id:=id,op:=23,oid:=o.1,has:=v.1.2,value:=v.1.1},{}),v.2)
def dI(id op:Int)(l:List El):Option ((Mg×Ls)×List El):=
 (eR 10 l).bind fun c=>(cg c.2).bind fun m=>(cg m.2).bind fun t=>
  if op=24 then(eS 10 t.2).bind fun o=>if o.1.2=true∧o.1.1=[] then none else(eS 11 o.2).map fun v=>
   (({id:=id,op:=op,code:=c.1,matched:=m.1,text:=t.1,oid:=o.1.1,has:=v.1.2,value:=v.1.1},{}),v.2)
  else some (({id:=id,op:=op,code:=c.1,matched:=m.1,text:=t.1},{}),t.2)
def oDo(id op:Int)(r:List El):Option ((Mg×Ls)×List El):=
 if op=0 then gU id r else if op=3 then fG id r else if op=6 then fH id r else if op=8 then fh id 8 r else if op=4 then fh id 4 r else if op=12 then gV id r else if op=14 then eZ id r else if op=23 then fI id r
 else if ez.contains op then dI id op r else none
def oOp(id:Int)(e:El):Option (Mg×Ls):=
 if e.tag=2 then(dK e 1 2).bind fun s=>if s=[] then some ({id:=id,op:=2},{}) else none
 else if e.tag=10 then(dK e 1 10).map fun s=>({id:=id,op:=10,dn:=s},{})
 else if e.tag=16 then(fW e 1 16).map fun n=>({id:=id,op:=16,target:=n},{})
 else(ci e 1 e.tag).bind fun r=>(oDo id e.tag r).bind fun x=>bN x.1 x.2
def dU(e:El):Option (Mg×Ls):=
 (ci e 0 16).bind fun r=>(eR 2 r).bind fun n=>(bS (oOp n.1) n.2).bind fun x=>
  if da 2 0 x.2 then(bS (fun e=>(ci e 2 0).bind fun k=>ev AR k) x.2).bind fun c=>bN (x.1.1,{x.1.2 with ctl:=c.1}) c.2
  else bN x.1 x.2
def BZ(w:World)(b:List UInt8)(e:Ending)(w':World):Prop:=
 e=.returned (.tuple #[.int .i64 ((bt b).1:Int),.int .i64 ((bt b).2.1:Int),.int .i64 (bt b).2.2])∧∃m,w'=w.drewN m
theorem BZ.of{w:World}{b:List UInt8}{n m:Nat}{c:Int}(h:bt b=(n,m,c))(k:Nat):BZ w b (.returned (.tuple #[.int .i64 (n:Int),.int .i64 (m:Int),.int .i64 c])) (w.drewN k):=by
 unfold BZ;rw[h];exact⟨rfl,k,rfl⟩
theorem rE(w:World):Calls Tryz.prog 93 #[.string ⟨([]:List UInt8).toArray⟩] w (BZ w ([])):=by
 have HEQ:=hid (show bt []=(0,0,20) from rfl)
 go_enter Tryz.func93,Tryz.ntmps93
 go_wp2_with fail
 refine aH (v:=.tuple #[.int .i64 (((0:Nat):Int)),.int .i64 (((0:Nat):Int)),.int .i64 20]) ?_ rfl (BZ.of HEQ.out 0)
 simp[results,Tryz.f93]
theorem rF(b0:UInt8)(r:List UInt8)(hl:r.length≤1000000000)(h0:30<b0.toNat% 32)(w:World):Calls Tryz.prog 93 #[.string ⟨(b0::r:List UInt8).toArray⟩] w (BZ w (b0::r)):=by
 have HEQ:=hid (show bt (b0::r)=(0,0,21) by simp[bt,h0]);have e0:=dP (b0::r) 0 b0 rfl (by rw[Lib.size_mk];simp);have ha:=wO b0;obtain⟨T,hT⟩:=nmm (b0.toNat% 32);rw[hT] at ha h0;have g1:decide ((30:Int)<(T:Int))=true:=aC (by omega);have g2:decide ((T:Int)>30)=true:=aC (by omega);have gp:(0:Int)<(r.length:Int)+1:=by omega
 clear hT
 go_enter Tryz.func93,Tryz.ntmps93
 go_wp2_with fail
 refine aH (v:=.tuple #[.int .i64 (((0:Nat):Int)),.int .i64 (((0:Nat):Int)),.int .i64 21]) ?_ rfl (BZ.of HEQ.out 0)
 simp[results,Tryz.f93]
theorem rG(b0:UInt8)(h0:b0.toNat% 32≤30)(w:World):Calls Tryz.prog 93 #[.string ⟨([b0]:List UInt8).toArray⟩] w (BZ w ([b0])):=by
 have HEQ:=hid (show bt [b0]=(0,0,20) by simp[bt,show ¬30<b0.toNat% 32 by omega]);have e0:=dP [b0] 0 b0 rfl (by rw[Lib.size_mk];simp);have ha:=wO b0;obtain⟨T,hT⟩:=nmm (b0.toNat% 32);rw[hT] at ha h0;have g1:decide ((30:Int)<(T:Int))=false:=an (by omega);have g2:decide ((T:Int)>30)=false:=an (by omega);clear hT
 go_enter Tryz.func93,Tryz.ntmps93
 go_wp2_with fail
 refine aH (v:=.tuple #[.int .i64 (((0:Nat):Int)),.int .i64 (((0:Nat):Int)),.int .i64 20]) ?_ rfl (BZ.of HEQ.out 0)
 simp[results,Tryz.f93]
theorem qg(b0 b1:UInt8)(r:List UInt8)(hl:r.length≤1000000000)(h0:b0.toNat% 32≤30)(_:128≤b1.toNat)(hn:b1.toNat=128)(w:World):Calls Tryz.prog 93 #[.string ⟨(b0::b1::r:List UInt8).toArray⟩] w (BZ w (b0::b1::r)):=by
 have HEQ0:bt (b0::b1::r)=(0,0,22):=by simp[bt,show ¬30<b0.toNat% 32 by omega, hn]
 have e0:=dP (b0::b1::r) 0 b0 rfl (by rw[Lib.size_mk];simp);have e1:=dP (b0::b1::r) 1 b1 rfl (by rw[Lib.size_mk];simp);have ha:=wO b0;obtain⟨T,hT⟩:=nmm (b0.toNat% 32);rw[hT] at ha h0;have g1:decide ((30:Int)<(T:Int))=false:=an (by omega);have g2:decide ((T:Int)>30)=false:=an (by omega);have g3:((r.length:Int)+1+1==1)=false:=by simp;omega
 have gp0:(0:Int)<(r.length:Int)+1+1:=by omega
 have gp1:(1:Int)<(r.length:Int)+1+1:=by omega
 have g4:decide ((b1.toNat:Int)<128)=false:=an (by omega);obtain⟨N,hN⟩:=nmm (b1.toNat -128);have hb1:(b1.toNat:Int)=(N:Int)+128:=by omega
 have hbl:=UInt8.toNat_lt b1;have hw0:IntKind.i64.wrap (b1.toNat:Int)=(b1.toNat:Int):=by rw[aK];omega
 have hw1:IntKind.i64.wrap ((b1.toNat:Int) -128)=(N:Int):=by rw[aK];omega
 have hw2:(b1.toNat:Int) -128=(N:Int):=by omega
 have HEQ:=hid HEQ0;have hN0:N=0:=by omega
 subst hN0;clear HEQ0 hT hN
 go_enter Tryz.func93,Tryz.ntmps93
 go_wp2_with fail
 refine aH (v:=.tuple #[.int .i64 (((0:Nat):Int)),.int .i64 (((0:Nat):Int)),.int .i64 22]) ?_ rfl (BZ.of HEQ.out 0)
 simp[results,Tryz.f93]
theorem qh(b0 b1:UInt8)(r:List UInt8)(hl:r.length≤1000000000)(h0:b0.toNat% 32≤30)(_:128≤b1.toNat)(hn:132<b1.toNat)(w:World):Calls Tryz.prog 93 #[.string ⟨(b0::b1::r:List UInt8).toArray⟩] w (BZ w (b0::b1::r)):=by
 have HEQ0:bt (b0::b1::r)=(0,0,22):=by simp[bt,show ¬30<b0.toNat% 32 by omega,show ¬b1.toNat<128 by omega,show 4<b1.toNat -128 by omega]
 have e0:=dP (b0::b1::r) 0 b0 rfl (by rw[Lib.size_mk];simp);have e1:=dP (b0::b1::r) 1 b1 rfl (by rw[Lib.size_mk];simp);have ha:=wO b0;obtain⟨T,hT⟩:=nmm (b0.toNat% 32);rw[hT] at ha h0;have g1:decide ((30:Int)<(T:Int))=false:=an (by omega);have g2:decide ((T:Int)>30)=false:=an (by omega);have g3:((r.length:Int)+1+1==1)=false:=by simp;omega
 have gp0:(0:Int)<(r.length:Int)+1+1:=by omega
 have gp1:(1:Int)<(r.length:Int)+1+1:=by omega
 have g4:decide ((b1.toNat:Int)<128)=false:=an (by omega);obtain⟨N,hN⟩:=nmm (b1.toNat -128);have hb1:(b1.toNat:Int)=(N:Int)+128:=by omega
 have hbl:=UInt8.toNat_lt b1;have hw0:IntKind.i64.wrap (b1.toNat:Int)=(b1.toNat:Int):=by rw[aK];omega
 have hw1:IntKind.i64.wrap ((b1.toNat:Int) -128)=(N:Int):=by rw[aK];omega
 have hw2:(b1.toNat:Int) -128=(N:Int):=by omega
 have HEQ:=hid HEQ0;have k1:decide ((N:Int)<1)=false:=an (by omega);have k2:decide ((N:Int)>4)=true:=aC (by omega);have k3:decide ((4:Int)<(N:Int))=true:=aC (by omega);clear HEQ0 hT hN
 go_enter Tryz.func93,Tryz.ntmps93
 go_wp2_with fail
 refine aH (v:=.tuple #[.int .i64 (((0:Nat):Int)),.int .i64 (((0:Nat):Int)),.int .i64 22]) ?_ rfl (BZ.of HEQ.out 0)
 simp[results,Tryz.f93]
theorem nt(b0 b1:UInt8)(r:List UInt8)(hl:r.length≤1000000000)(h0:b0.toNat% 32≤30)(_:128≤b1.toNat)(hn:128<b1.toNat)(hn4:b1.toNat≤132)(hs:r.length<b1.toNat -128)(w:World):Calls Tryz.prog 93 #[.string ⟨(b0::b1::r:List UInt8).toArray⟩] w (BZ w (b0::b1::r)):=by
 have HEQ0:bt (b0::b1::r)=(0,0,20):=by simp[bt,show ¬30<b0.toNat% 32 by omega,show ¬b1.toNat<128 by omega,show ¬(b1.toNat -128=0∨4<b1.toNat -128) by omega,hs]
 have e0:=dP (b0::b1::r) 0 b0 rfl (by rw[Lib.size_mk];simp);have e1:=dP (b0::b1::r) 1 b1 rfl (by rw[Lib.size_mk];simp);have ha:=wO b0;obtain⟨T,hT⟩:=nmm (b0.toNat% 32);rw[hT] at ha h0;have g1:decide ((30:Int)<(T:Int))=false:=an (by omega);have g2:decide ((T:Int)>30)=false:=an (by omega);have g3:((r.length:Int)+1+1==1)=false:=by simp;omega
 have gp0:(0:Int)<(r.length:Int)+1+1:=by omega
 have gp1:(1:Int)<(r.length:Int)+1+1:=by omega
 have g4:decide ((b1.toNat:Int)<128)=false:=an (by omega);obtain⟨N,hN⟩:=nmm (b1.toNat -128);have hb1:(b1.toNat:Int)=(N:Int)+128:=by omega
 have hbl:=UInt8.toNat_lt b1;have hw0:IntKind.i64.wrap (b1.toNat:Int)=(b1.toNat:Int):=by rw[aK];omega
 have hw1:IntKind.i64.wrap ((b1.toNat:Int) -128)=(N:Int):=by rw[aK];omega
 have hw2:(b1.toNat:Int) -128=(N:Int):=by omega
 have HEQ:=hid HEQ0;have k1:decide ((N:Int)<1)=false:=an (by omega);have k2:decide ((N:Int)>4)=false:=an (by omega);have k3:decide ((4:Int)<(N:Int))=false:=an (by omega);have hw3:IntKind.i64.wrap (2+(N:Int))=2+(N:Int):=by rw[aK];omega
 have k4:decide ((r.length:Int)+1+1<2+(N:Int))=true:=aC (by omega);clear HEQ0 hT hN
 go_enter Tryz.func93,Tryz.ntmps93
 go_wp2_with fail
 refine aH (v:=.tuple #[.int .i64 (((0:Nat):Int)),.int .i64 (((0:Nat):Int)),.int .i64 20]) ?_ rfl (BZ.of HEQ.out 0)
 simp[results,Tryz.f93]
theorem rH(b0 b1:UInt8)(r:List UInt8)(hl:r.length≤1000000000)(h0:b0.toNat% 32≤30)(_:128≤b1.toNat)(hn:128<b1.toNat)(hn4:b1.toNat≤132)(hs:b1.toNat -128≤r.length)(hs2:65536<2+(b1.toNat -128)+dW (r.take (b1.toNat -128)))(w:World):Calls Tryz.prog 93 #[.string ⟨(b0::b1::r:List UInt8).toArray⟩] w (BZ w (b0::b1::r)):=by
 have HEQ0:bt (b0::b1::r)=(0,0,2):=by simp[bt,show ¬30<b0.toNat% 32 by omega,show ¬b1.toNat<128 by omega,show ¬(b1.toNat -128=0∨4<b1.toNat -128) by omega,show ¬r.length<b1.toNat -128 by omega,hs2]
 have e0:=dP (b0::b1::r) 0 b0 rfl (by rw[Lib.size_mk];simp);have e1:=dP (b0::b1::r) 1 b1 rfl (by rw[Lib.size_mk];simp);have ha:=wO b0;obtain⟨T,hT⟩:=nmm (b0.toNat% 32);rw[hT] at ha h0;have g1:decide ((30:Int)<(T:Int))=false:=an (by omega);have g2:decide ((T:Int)>30)=false:=an (by omega);have g3:((r.length:Int)+1+1==1)=false:=by simp;omega
 have gp0:(0:Int)<(r.length:Int)+1+1:=by omega
 have gp1:(1:Int)<(r.length:Int)+1+1:=by omega
 have g4:decide ((b1.toNat:Int)<128)=false:=an (by omega);obtain⟨N,hN⟩:=nmm (b1.toNat -128);have hb1:(b1.toNat:Int)=(N:Int)+128:=by omega
 have hbl:=UInt8.toNat_lt b1;have hw0:IntKind.i64.wrap (b1.toNat:Int)=(b1.toNat:Int):=by rw[aK];omega
 have hw1:IntKind.i64.wrap ((b1.toNat:Int) -128)=(N:Int):=by rw[aK];omega
 have hw2:(b1.toNat:Int) -128=(N:Int):=by omega
 rw[hN] at hs2 hs;have k1:decide ((N:Int)<1)=false:=an (by omega);have k2:decide ((N:Int)>4)=false:=an (by omega);have k3:decide ((4:Int)<(N:Int))=false:=an (by omega);have hw3:IntKind.i64.wrap (2+(N:Int))=2+(N:Int):=by rw[aK];omega
 have k4:decide ((r.length:Int)+1+1<2+(N:Int))=false:=an (by omega);have ex1:(⟨(b0::b1::r).toArray⟩:ByteArray).extract 2 (2+N)=⟨(r.take N).toArray⟩:=by rw[Lib.extract_eq];simp
 have kg:=zO (r.take N) (by simp;omega) (by simp;omega) w;have hw4:(0:Int)≤2+(N:Int):=by omega
 have hw5:((2:Int)+(N:Int)).toNat=2+N:=by omega
 have hw6:(2:Int)+(N:Int)≤(r.length:Int)+1+1:=by omega
 have hv:=jx N (r.take N) (by simp;omega);have hv2:dW (r.take N)<256^4:=Nat.lt_of_lt_of_le hv (Nat.pow_le_pow_right (by omega) (by omega));obtain⟨V,hV⟩:=nmm (dW (r.take N));rw[hV] at kg hv2 hs2;have hw7:IntKind.i64.wrap (2+(N:Int)+(V:Int))=2+(N:Int)+(V:Int):=by rw[aK];omega
 have k5:decide (2+(N:Int)+(V:Int)>65536)=true:=aC (by omega);have k6:decide (65536<2+(N:Int)+(V:Int))=true:=aC (by omega);have HEQ:=hid HEQ0;clear HEQ0 hT hN hV hv
 go_enter Tryz.func93,Tryz.ntmps93
 go_wp2_with fail
 try rw[ex1]
 refine ag kg ?_;rintro e w1 ⟨rfl,hw1'⟩;rw[hw1'];clear hw1' kg
 go_wp2_with fail
 refine aH (v:=.tuple #[.int .i64 (((0:Nat):Int)),.int .i64 (((0:Nat):Int)),.int .i64 2]) ?_ rfl (BZ.of HEQ.out 0)
 simp[results,Tryz.f93]
theorem qi(b0 b1:UInt8)(r:List UInt8)(hl:r.length≤1000000000)(h0:b0.toNat% 32≤30)(_:128≤b1.toNat)(hn:128<b1.toNat)(hn4:b1.toNat≤132)(hs:b1.toNat -128≤r.length)(hs2:2+(b1.toNat -128)+dW (r.take (b1.toNat -128))≤65536)(w:World):Calls Tryz.prog 93 #[.string ⟨(b0::b1::r:List UInt8).toArray⟩] w (BZ w (b0::b1::r)):=by
 have HEQ0:bt (b0::b1::r)=(2+(b1.toNat -128),dW (r.take (b1.toNat -128)),0):=by simp[bt,show ¬30<b0.toNat% 32 by omega,show ¬b1.toNat<128 by omega,show ¬(b1.toNat -128=0∨4<b1.toNat -128) by omega,show ¬r.length<b1.toNat -128 by omega,show ¬65536<2+(b1.toNat -128)+dW (r.take (b1.toNat -128)) by omega]
 have e0:=dP (b0::b1::r) 0 b0 rfl (by rw[Lib.size_mk];simp);have e1:=dP (b0::b1::r) 1 b1 rfl (by rw[Lib.size_mk];simp);have ha:=wO b0;obtain⟨T,hT⟩:=nmm (b0.toNat% 32);rw[hT] at ha h0;have g1:decide ((30:Int)<(T:Int))=false:=an (by omega);have g2:decide ((T:Int)>30)=false:=an (by omega);have g3:((r.length:Int)+1+1==1)=false:=by simp;omega
 have gp0:(0:Int)<(r.length:Int)+1+1:=by omega
 have gp1:(1:Int)<(r.length:Int)+1+1:=by omega
 have g4:decide ((b1.toNat:Int)<128)=false:=an (by omega);obtain⟨N,hN⟩:=nmm (b1.toNat -128);have hb1:(b1.toNat:Int)=(N:Int)+128:=by omega
 have hbl:=UInt8.toNat_lt b1;have hw0:IntKind.i64.wrap (b1.toNat:Int)=(b1.toNat:Int):=by rw[aK];omega
 have hw1:IntKind.i64.wrap ((b1.toNat:Int) -128)=(N:Int):=by rw[aK];omega
 have hw2:(b1.toNat:Int) -128=(N:Int):=by omega
 rw[hN] at HEQ0 hs2 hs;have k1:decide ((N:Int)<1)=false:=an (by omega);have k2:decide ((N:Int)>4)=false:=an (by omega);have k3:decide ((4:Int)<(N:Int))=false:=an (by omega);have hw3:IntKind.i64.wrap (2+(N:Int))=2+(N:Int):=by rw[aK];omega
 have k4:decide ((r.length:Int)+1+1<2+(N:Int))=false:=an (by omega);have ex1:(⟨(b0::b1::r).toArray⟩:ByteArray).extract 2 (2+N)=⟨(r.take N).toArray⟩:=by rw[Lib.extract_eq];simp
 have kg:=zO (r.take N) (by simp;omega) (by simp;omega) w;have hw4:(0:Int)≤2+(N:Int):=by omega
 have hw5:((2:Int)+(N:Int)).toNat=2+N:=by omega
 have hw6:(2:Int)+(N:Int)≤(r.length:Int)+1+1:=by omega
 have hv:=jx N (r.take N) (by simp;omega);have hv2:dW (r.take N)<256^4:=Nat.lt_of_lt_of_le hv (Nat.pow_le_pow_right (by omega) (by omega));obtain⟨V,hV⟩:=nmm (dW (r.take N));rw[hV] at kg hv2 hs2 HEQ0;have hw7:IntKind.i64.wrap (2+(N:Int)+(V:Int))=2+(N:Int)+(V:Int):=by rw[aK];omega
 have k5:decide (2+(N:Int)+(V:Int)>65536)=false:=an (by omega);have k6:decide (65536<2+(N:Int)+(V:Int))=false:=an (by omega);have HEQ:=hid HEQ0;clear HEQ0 hT hN hV hv
 go_enter Tryz.func93,Tryz.ntmps93
 go_wp2_with fail
 try rw[ex1]
 refine ag kg ?_;rintro e w1 ⟨rfl,hw1'⟩;rw[hw1'];clear hw1' kg
 go_wp2_with fail
 refine aH (v:=.tuple #[.int .i64 (((2+N:Nat):Int)),.int .i64 ((V:Int)),I0]) ?_ rfl (BZ.of HEQ.out 0)
 simp[results,Tryz.f93]
theorem gG(b:List UInt8)(hl:b.length≤1000000000)(w:World):Calls Tryz.prog 93 #[.string ⟨b.toArray⟩] w (BZ w b):=by
 cases b with
 |nil=>exact rE w
 |cons b0 r=>
  simp only[aG] at hl
  by_cases h0:30<b0.toNat% 32
  ·exact rF b0 r (by omega) h0 w
  cases r with
  |nil=>exact rG b0 (by omega) w
  |cons b1 r=>
   simp only[aG] at hl
   by_cases h1:b1.toNat<128
   ·refine(ph b0 b1 r (by omega) h1 w).mono ?_
    rintro e w' ⟨rfl,m,rfl⟩;exact BZ.of (n:=2) (m:=b1.toNat) (c:=0) (by simp[bt,h0,h1]) m
   by_cases h2:b1.toNat=128
   ·exact qg b0 b1 r (by omega) (by omega) (by omega) h2 w
   by_cases h3:132<b1.toNat
   ·exact qh b0 b1 r (by omega) (by omega) (by omega) h3 w
   by_cases h4:r.length<b1.toNat -128
   ·exact nt b0 b1 r (by omega) (by omega) (by omega) (by omega) (by omega) h4 w
   by_cases h5:65536<2+(b1.toNat -128)+dW (r.take (b1.toNat -128))
   ·exact rH b0 b1 r (by omega) (by omega) (by omega) (by omega) (by omega) (by omega) h5 w
   ·exact qi b0 b1 r (by omega) (by omega) (by omega) (by omega) (by omega) (by omega) (by omega) w
end Go.Proofs.YtfhghdcbofbceaaGreatDoor
