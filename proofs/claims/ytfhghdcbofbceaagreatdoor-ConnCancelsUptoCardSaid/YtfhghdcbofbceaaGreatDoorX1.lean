/- Base, CardBaseC, PlainBer, BerA, MapK, RngT, Gen, BerB, BerC, BerD, BerE, BuildS. -/
import Derived.Test.YtfhghdcbofbceaaGreatDoorShelf
import Derived.WalkKit
import Derived.WalkLawsBesides
import Derived.WalkSpells
import Derived.Deep.QuietTactic
import Derived.BigQuiet
import Derived.Lib.AppendStr
import Derived.Lib.OthersKept
import Derived.Lib.Hide
import Derived.Lib.TrimUEq
import Derived.Lib.ValidLaws
import Derived.Laws.Runes
import Derived.Test.YtfhghdcbofbceaaGreatDoorCards
import Derived.Test.YtfhghdcbofbceaaGreatDoorTie
import Derived.ProofKit
import Derived.OpenShut
import Derived.Deep.DeepHandedRow
import Derived.Deep.DeepWitnessRowRef
import Derived.Lib.LaidTab
import Derived.Lib.LaidIn
import Derived.Lib.LaidU8T
import Derived.SizedLaws
import Derived.MapKept
import Derived.RegionTactic
import Derived.OrdersHeld
import Derived.Laws.Rows
import Derived.Laws.Tables
import Derived.Deep.AppendLies
import Derived.Lib.Builder
import Derived.Lib.UnsafeStr
namespace Go.Proofs.YtfhghdcbofbceaaGreatDoor
open Go.RowKit Go.Lib
open Go.Shelf Go.ChangeShapes Go.WideShapes Go.ChangeAt Go.RowKit Go.Lib
open Go.RowKit
theorem ag:type_of% @Calls.mono:=@Calls.mono
theorem aq:type_of% @cell_of_heap:=@cell_of_heap
theorem ah:type_of% @Nat.le_refl:=@Nat.le_refl
theorem ai:type_of% @Option.bind_some:=@Option.bind_some
theorem aj:type_of% @Lib.frozen_of_heap:=@Lib.frozen_of_heap
theorem aA:type_of% @Below.refl:=@Below.refl
theorem an:type_of% @decide_eq_false:=@decide_eq_false
theorem aw:type_of% @Option.map_some:=@Option.map_some
theorem aC:type_of% @decide_eq_true:=@decide_eq_true
theorem aE:type_of% @beq_false_of_ne:=@beq_false_of_ne
theorem aH:type_of% @bodyPost_ret:=@bodyPost_ret
theorem aB:type_of% @wpList_plain:=@wpList_plain
theorem ax:type_of% @Option.bind_eq_some_iff:=@Option.bind_eq_some_iff
theorem aD:type_of% @Option.some.inj:=@Option.some.inj
theorem aG:type_of% @List.length_cons:=@List.length_cons
theorem aM:type_of% @List.getElem?_eq_getElem:=@List.getElem?_eq_getElem
theorem aK:type_of% @IntKind.wrap_i64:=@IntKind.wrap_i64
theorem aV:type_of% @Option.map_eq_some_iff:=@Option.map_eq_some_iff
theorem aI:type_of% @Bool.and_eq_true:=@Bool.and_eq_true
theorem aN:type_of% @List.cons.inj:=@List.cons.inj
theorem aP:type_of% @Prod.mk.inj:=@Prod.mk.inj
theorem aQ:type_of% @wp_region_list:=@wp_region_list
theorem aR:type_of% @wp_region_held:=@wp_region_held
theorem xk:type_of% @wpAnyH_done:=@wpAnyH_done
theorem aU:type_of% @List.length_nil:=@List.length_nil
theorem aW:type_of% @Bool.false_eq_true:=@Bool.false_eq_true
theorem aX:type_of% @Below.heap_setCell:=@Below.heap_setCell
theorem aT:type_of% @decide_eq_true_eq:=@decide_eq_true_eq
theorem xn:type_of% @List.length_append:=@List.length_append
theorem aZ:type_of% @List.not_mem_nil:=@List.not_mem_nil
theorem aY:type_of% @List.mem_cons:=@List.mem_cons
theorem be:type_of% @Option.bind_none:=@Option.bind_none
theorem aJ:type_of% @run_loadVar_row:=@run_loadVar_row
theorem bn:type_of% @Option.map_none:=@Option.map_none
theorem Cg{a b:Prop}(x:a)(y:b):RowKit.Hid a∧RowKit.Hid b:=⟨x,y⟩
theorem Ch{a b c:Prop}(x:a)(xb:b)(xc:c):RowKit.Hid a∧RowKit.Hid b∧RowKit.Hid c:=⟨x,Cg xb xc⟩
theorem Ci{a b c d:Prop}(x:a)(xb:b)(xc:c)(xd:d):RowKit.Hid a∧RowKit.Hid b∧RowKit.Hid c∧RowKit.Hid d:=⟨x,Ch xb xc xd⟩
theorem Cj{a b c d e:Prop}(x:a)(xb:b)(xc:c)(xd:d)(xe:e):RowKit.Hid a∧RowKit.Hid b∧RowKit.Hid c∧RowKit.Hid d∧RowKit.Hid e:=⟨x,Ci xb xc xd xe⟩
theorem Cy{a b c d e f:Prop}(x:a)(xb:b)(xc:c)(xd:d)(xe:e)(xf:f):RowKit.Hid a∧RowKit.Hid b∧RowKit.Hid c∧RowKit.Hid d∧RowKit.Hid e∧RowKit.Hid f:=⟨x,Cj xb xc xd xe xf⟩
theorem Ck{a b c d e f g:Prop}(x:a)(xb:b)(xc:c)(xd:d)(xe:e)(xf:f)(xg:g):RowKit.Hid a∧RowKit.Hid b∧RowKit.Hid c∧RowKit.Hid d∧RowKit.Hid e∧RowKit.Hid f∧RowKit.Hid g:=⟨x,Cy xb xc xd xe xf xg⟩
theorem Cx{a b c d e f g h:Prop}(x:a)(xb:b)(xc:c)(xd:d)(xe:e)(xf:f)(xg:g)(xh:h):RowKit.Hid a∧RowKit.Hid b∧RowKit.Hid c∧RowKit.Hid d∧RowKit.Hid e∧RowKit.Hid f∧RowKit.Hid g∧RowKit.Hid h:=⟨x,Ck xb xc xd xe xf xg xh⟩
theorem CE{a b c d e f g h i:Prop}(x:a)(xb:b)(xc:c)(xd:d)(xe:e)(xf:f)(xg:g)(xh:h)(xi:i):RowKit.Hid a∧RowKit.Hid b∧RowKit.Hid c∧RowKit.Hid d∧RowKit.Hid e∧RowKit.Hid f∧RowKit.Hid g∧RowKit.Hid h∧RowKit.Hid i:=⟨x,Cx xb xc xd xe xf xg xh xi⟩
theorem Cz{a b c d e f g h i j:Prop}(x:a)(xb:b)(xc:c)(xd:d)(xe:e)(xf:f)(xg:g)(xh:h)(xi:i)(xj:j):RowKit.Hid a∧RowKit.Hid b∧RowKit.Hid c∧RowKit.Hid d∧RowKit.Hid e∧RowKit.Hid f∧RowKit.Hid g∧RowKit.Hid h∧RowKit.Hid i∧RowKit.Hid j:=⟨x,CE xb xc xd xe xf xg xh xi xj⟩
theorem kkn{G:Act→World→Prop}{R:(Act→World→Prop)→Prop}{a':Act}{w':World}(h:G a' w')(e:∀K:Act→World→Prop,K a' w'→R K:=by intro K hK;go_simp;exact hK):∀K':Act→World→Prop,(∀a w,G a w→K' a w)→R K':=fun K hK=>e K (hK _ _ h)
theorem kks{S:World→Prop}{G:Act→World→Prop}{R:(Act→World→Prop)→Prop}{a':Act}{w':World}(hS:S w')(h:G a' w')(e:∀K:Act→World→Prop,K a' w'→R K:=by intro K hK;go_simp;exact hK):∀K':Act→World→Prop,(∀a w,S w→G a w→K' a w)→R K':=fun K hK=>e K (hK _ _ hS h)
theorem nmm{α:Type}(e:α):∃x,e=x:=⟨e,rfl⟩
theorem btt{w w' w2:World}(h:Below w.heap.size w w')(k:Below w'.heap.size w' w2):Below w.heap.size w w2:=h.trans (k.mono h.size)
theorem bkk{w w':World}{i:Nat}{x:Obj}(h:Below w.heap.size w w')(r:w.heap[i]?=some x):w'.heap[i]?=some x:=(h.block _ (Array.getElem?_eq_some_iff.1 r).1).trans r
theorem cval{w:World}{b:Nat}{cs:Array Value}{T:TypeId}{fr:Nat×Nat}(h:w.heap[b]?=some (.cells cs T fr))(j:Nat)(v:Value)(e:cs[j]?=some v:=by exact rfl):w.cell? ⟨b,j,none⟩=some v:=(Lib.cell_of_heap h j).trans e
abbrev Bw(w w2:World):Prop:=Below w.heap.size w w2
abbrev Hc(w:World)(g:Nat)(A:Array Value)(t:TypeId):Prop:=w.heap[g]?=some (.cells A t (0,0))
set_option maxRecDepth 100000
set_option maxHeartbeats 16000000
theorem gl{α:Type _}{a:Array α}{i:Nat}{x:α}(h:a[i]?=some x):i<a.size:=(Array.getElem?_eq_some_iff.1 h).1
abbrev Zm:Array Value:=#[.int .i64 0,.int .i64 0,.string ⟨#[]⟩,.int .i64 0,.bool false,.string ⟨#[]⟩,.int .i64 0,.int .i64 0,.int .i64 0,.int .i64 0,.bool false,.slice none 0 0,.slice none 0 0,.slice none 0 0,.slice none 0 0,.string ⟨#[]⟩,.string ⟨#[]⟩,.bool false,.bool false,.string ⟨#[]⟩,.string ⟨#[]⟩,.string ⟨#[]⟩,.bool false,.int .i64 0,.int .i64 0,.string ⟨#[]⟩,.string ⟨#[]⟩,.slice none 0 0]
abbrev Ze:Array Value:=#[.int .i64 0,.int .i64 0,.bool false,.string ⟨#[]⟩,.slice none 0 0]
abbrev Zf:Array Value:=#[.int .i64 0,.int .i64 0,.string ⟨#[]⟩,.string ⟨#[]⟩,.string ⟨#[]⟩,.string ⟨#[]⟩,.slice none 0 0]
abbrev Es:Value:=.string ⟨#[]⟩
abbrev Sn:Value:=.slice none 0 0
abbrev I0:Value:=.int .i64 0
abbrev Bf:Value:=.bool false
abbrev Cr(n:FuncId)(x:Array Value)(w:World)(v:Value):Prop:=Calls Tryz.prog n x w fun e w'=>e=.returned v∧Bw w w'
theorem bj{w:World}{a:Addr}{v:Value}(h:w.cell? a=some v):a.block<w.heap.size:=by
 rcases Nat.lt_or_ge a.block w.heap.size with h'|h'
 ·exact h'
 ·simp[World.cell?,Array.getElem?_eq_none h'] at h
structure Env (w:World):Prop where
 tabs:Lib.Utf8Tabs 1 2 w
 maxl:∃m,w.cell? ⟨0,0,none⟩=some (.int .i64 m)
theorem Env.below{w w':World}(h:Env w)(hb:Bw w w'):Env w':=
 ⟨Utf8Tabs_below h.tabs hb,by obtain⟨m,hm⟩:=h.maxl;exact⟨m,(hb.cell (bj hm)).trans hm⟩⟩
theorem cM{a b c:World}(h:Bw a b)(k:Bw b c):Bw a c:=btt h k
def bV(l:List UInt8):List Value:=l.map fun b=>Value.int .u8 b.toNat
theorem fD(l:List UInt8):(bV l).length=l.length:=by simp[bV]
theorem kU(a b:List UInt8):bV (a++b)=bV a++bV b:=by simp[bV]
theorem mY(s:ByteArray):strCells s=bV s.data.toList:=rfl
theorem jU:∀(l:List UInt8) (s:ByteArray),(l.map fun b=>(b.toNat:Int)).foldl (fun r n=>r.push (UInt8.ofNat n.toNat)) s=⟨(s.data.toList++l).toArray⟩
 |[],s=>by cases s;simp
 |b::l,s=>by
  simp only[List.map_cons,List.foldl_cons];rw[jU l]
  simp[ByteArray.push]
theorem eU{P:Program}(w:World)(src dst e:TypeId)(a:Addr)(c:Nat)(l:List UInt8)
  (hs:P.underlying src=some (.slice e)) (he:P.underlying e=some (.int .u8)) (hd:P.underlying dst=some .string)
  (h:∀j u,(bV l)[j]?=some u→w.cell? (a.add j)=some u):
  (convert src dst (.slice (some a) l.length c)).run P w=.ok (.string ⟨l.toArray⟩) w:=by
 rw[run_convert_bytes_string w src dst e _ _ _ hs he hd];have hl:=run_loadCells_list (P:=P) w a (bV l) h;rw[fD] at hl;have:bV l=(l.map fun b=>(b.toNat:Int)).map (Value.int .u8):=by simp[bV]
 rw[this] at hl;rw[run_bytesToString w a l.length c _ hl,jU]
 simp
theorem mZ{P:Program}(w:World)(src dst e:TypeId)(a:Option Addr)(c:Nat)
  (hs:P.underlying src=some (.slice e)) (he:P.underlying e=some (.int .u8)) (hd:P.underlying dst=some .string):
  (convert src dst (.slice a 0 c)).run P w=.ok (Es) w:=by
 rw[run_convert_bytes_string w src dst e _ _ _ hs he hd];cases a<;>(simp[Conv.bytesToString,loadCells,loadCellsFrom,ByteArray.empty,ByteArray.emptyWithCapacity];rfl)
theorem eI{P:Program}(w:World)(src dst e:TypeId)(base:Nat)(v:Value)(l:List UInt8)
  (hs:P.underlying src=some (.slice e)) (he:P.underlying e=some (.int .u8)) (hd:P.underlying dst=some .string)
  (h:w.ownsRow base e 1 v l.length (bV l)):
  (convert src dst v).run P w=.ok (.string ⟨l.toArray⟩) w:=by
 rcases h.2 with⟨rfl,hn⟩|⟨g,cap,cur,rfl,_⟩
 ·obtain rfl:l=[]:=List.eq_nil_of_length_eq_zero hn
  exact mZ w src dst e none 0 hs he hd
 ·exact eU w src dst e _ cap l hs he hd (h.cells (g:=g) rfl)
theorem own:ownKnob Tryz.prog.godebug=none:=by kernel_rfl
theorem pO:(Rows.laid_unicode_utf8_acceptRanges:DataW Unit)=Lib.acceptData:=by kernel_rfl
theorem ri:Rows.laid_unicode_utf8_first=Lib.firstData:=by kernel_rfl
noncomputable def gO(os:Os):World:=
 let w0:=World.holding Tryz.prog os ⟨#[],#[],[]⟩
 let put (h:Array Obj) (g:Nat) (cs:Array Value):Array Obj:=h.modify g fun
  | .cells _ t frozen=>.cells cs t frozen
  |o=>o
 let h1:=put w0.heap 1 (Lib.firstTab.map fun z=>Value.int .u8 z).toArray
 let h2:=put h1 2 ((List.range 16).flatMap fun i=>[Value.int .u8 (Lib.accLo i),Value.int .u8 (Lib.accHi i)]).toArray
 {w0 with heap:=h2}
theorem rj(os:Os)(args:Array Value):laidMet Tryz.prog [("unicode/utf8.acceptRanges",Rows.laid_unicode_utf8_acceptRanges),("unicode/utf8.first",Rows.laid_unicode_utf8_first)] ((gO os).forCall (fun _ _=>0) ⟨#[],args,[]⟩).memory:=
 (LaidIn.of_run (l:=[("unicode/utf8.acceptRanges",Rows.laid_unicode_utf8_acceptRanges),("unicode/utf8.first",Rows.laid_unicode_utf8_first)]) [2,1] 8 (by kernel_rfl) (by kernel_rfl) (by kernel_rfl) (by kernel_rfl)).met
theorem tE{W:World}(hL:laidMetH Tryz.prog [("unicode/utf8.acceptRanges",Rows.laid_unicode_utf8_acceptRanges),("unicode/utf8.first",Rows.laid_unicode_utf8_first)] W)(hsh:W.ShapedOpen Tryz.prog):Env W:=by
 refine⟨?_,?_⟩
 ·rw[pO,ri] at hL
  exact utf8Tabs_of_readsT (U8Types.of260 Tryz.lays260) ⟨by kernel_rfl,by kernel_rfl,by kernel_rfl,by kernel_rfl,by kernel_rfl,by kernel_rfl,by kernel_rfl⟩ (Lib.laidMet.reads hL (.tail _ (.head _))) (Lib.laidMet.reads hL (.head _))
 ·exact Tryz.laysM143.s1_3 W hsh
theorem sJ:laidOutB Tryz.prog=true:=by kernel_rfl
theorem uY:mapsRowed Tryz.prog=true:=by kernel_rfl
theorem rl:(List.range Tryz.prog.types.size).all (fun t=>match Tryz.prog.underlying t with|some (.slice e)=>decide (0<Tryz.prog.cellsOf e)|_=>true)=true:=by kernel_rfl
theorem sK:Kids Tryz.prog (·<Tryz.prog.types.size):=kids_rows sJ uY
theorem kV{H:Type}{enc:TypeId×Value→H}{W W':World}(hb:Bw W W'):∀(ts:List TypeId) (vs:List Value) (ds:List (DataW H)) (ps:List MemPlace),(∀t∈ts,t<Tryz.prog.types.size)→
  DataW.TrodAll enc Tryz.prog W 0 (fun _=>true) true ts vs ds ps→(∀p∈ps,p.block<W.heap.size)→DataW.TrodAll enc Tryz.prog W' 0 (fun b=>decide (b<W.heap.size)) true ts vs ds ps
 |[],[],[],ps,_,h,_=>h
 |t::ts,v::vs,d::ds,ps,ht,h,hp=>by
  obtain⟨p,q,⟨n,hn⟩,hq,rfl⟩:=h;refine⟨p,q,⟨n,?_⟩,kV hb ts vs ds q (fun t h=>ht t (by simp[h])) hq (fun x hx=>hp x (by simp[hx])),rfl⟩;refine DataW.trod_stays sK (fun{t e} ht hu=>?_) (fun h=>by cases h) (ht t (by simp)) hn (fun x hx=>hb.same (hp x (by simp[hx]))) (fun x hx=>aC (hp x (by simp[hx])));have:=List.all_eq_true.1 rl t (List.mem_range.2 ht);rw[hu] at this;exact of_decide_eq_true this
 |[],[],_::_,_,_,h,_=>h.elim
 |[],_::_,[],_,_,h,_=>h.elim
 |[],_::_,_::_,_,_,h,_=>h.elim
 |_::_,[],[],_,_,h,_=>h.elim
 |_::_,[],_::_,_,_,h,_=>h.elim
 |_::_,_::_,[],_,_,h,_=>h.elim
theorem mb{w:World}{a:Addr}{v:Value}(h:w.cell? a=some v):a.spot=none:=by
 unfold World.cell? at h
 split at h
 ·split at h
  ·cases h
  ·rename_i hs;simpa using hs
 ·cases h
inductive El where
 |mk (cls tag:Int) (cons:Bool) (bytes:List UInt8) (kids:List El)
def El.cls:El→Int
 | .mk c _ _ _ _=>c
def El.tag:El→Int
 | .mk _ t _ _ _=>t
def El.cons:El→Bool
 | .mk _ _ k _ _=>k
def El.bytes:El→List UInt8
 | .mk _ _ _ b _=>b
def El.kids:El→List El
 | .mk _ _ _ _ ks=>ks
abbrev Er(e:El)(a:Option Addr)(c:Nat):Array Value:=#[.int .i64 e.cls,.int .i64 e.tag,.bool e.cons,.string ⟨e.bytes.toArray⟩,.slice a e.kids.length c]
mutual
def ex:El→Nat
 | .mk _ _ _ _ ks=>fT ks+1
def fT:List El→Nat
 |[]=>0
 |e::r=>max (ex e) (fT r)
end
mutual
def SmE:El→Prop
 | .mk _ _ _ b ks=>b.length≤1000000000∧ks.length≤1000000000∧SmL ks
def SmL:List El→Prop
 |[]=>True
 |e::r=>SmE e∧SmL r
end
mutual
def eT(p:El→Bool):Nat→El→Bool
 |d,.mk c t k b ks=>if 20≤d then true else p (.mk c t k b ks)&&dS p (d+1) ks
def dS(p:El→Bool):Nat→List El→Bool
 |_,[]=>true
 |d,e::r=>eT p d e&&dS p d r
end
mutual
def eW:Nat→El→Bool
 |d,.mk _ _ _ _ ks=>if 20≤d then true else eX (d+1) ks
def eX:Nat→List El→Bool
 |_,[]=>false
 |d,e::r=>eW d e||eX d r
end
def cn:El→Bool
 | .mk c t _ _ _=>decide (0≤c)&&decide (c≤3)&&decide (0≤t)&&decide (t≤30)
def dw:El→Bool
 | .mk _ _ k b ks=>if k then decide (b=[]) else decide (ks=[])
def cV(n:Nat):List UInt8:=
 if n<128 then[UInt8.ofNat n] else if n<256 then[129,UInt8.ofNat n] else if n<65536 then[130,UInt8.ofNat (n/256),UInt8.ofNat n] else[131,UInt8.ofNat (n/65536),UInt8.ofNat (n/256),UInt8.ofNat n]
mutual
def bK:El→Nat
 | .mk _ _ _ b ks=>min (1+(cV (min (cw b.length ks) 65537)).length+cw b.length ks) 65537
def cw:Nat→List El→Nat
 |n,[]=>n
 |n,e::r=>cw (min (n+bK e) 65537) r
end
def bR:List El→Nat
 |[]=>0
 |e::r=>bK e+bR r
mutual
def eJ:El→List UInt8
 | .mk c t k b ks=>UInt8.ofNat (c.toNat*64+t.toNat+(if k then 32 else 0))::cV (b.length+bR ks)++b++dq ks
def dq:List El→List UInt8
 |[]=>[]
 |e::r=>eJ e++dq r
end
def dD(e:El):List UInt8×Int:=
 if eT cn 0 e=false then([],21) else if eT dw 0 e=false then([],24) else if eW 0 e then([],23) else if 65536<bK e then([],2) else(eJ e,0)
theorem eV:∀(l:List El) (j:Nat) (e:El),SmL l→l[j]?=some e→SmE e
 |[],_,_,_,h=>by simp at h
 |x::r,0,e,h,hj=>by simp at hj;subst hj;exact h.1
 |x::r,j+1,e,h,hj=>eV r j e h.2 (by simpa using hj)
theorem eK:∀(l:List El) (j:Nat) (e:El),l[j]?=some e→ex e≤fT l
 |[],_,_,h=>by simp at h
 |x::r,0,e,hj=>by simp at hj;subst hj;simp only[fT];omega
 |x::r,j+1,e,hj=>by
  have:=eK r j e (by simpa using hj);simp only[fT];omega
mutual
def ElC(P:Nat→Prop)(w:World):El→Nat→Nat→Prop
 | .mk c t k b ks,g,o=>w.cell? ⟨g,o,none⟩=some (.int .i64 c)∧w.cell? ⟨g,o+1,none⟩=some (.int .i64 t)∧w.cell? ⟨g,o+2,none⟩=some (.bool k)∧w.cell? ⟨g,o+3,none⟩=some (.string ⟨b.toArray⟩)∧
   ∃u,w.cell? ⟨g,o+4,none⟩=some u∧∃a cap,u=.slice a ks.length cap∧ks.length≤cap∧(ks≠[]→∃g' o',a=some ⟨g',o',none⟩∧P g'∧cE P w ks g' o')
def cE(P:Nat→Prop)(w:World):List El→Nat→Nat→Prop
 |[],_,_=>True
 |e::r,g,o=>ElC P w e g o∧cE P w r g (o+5)
end
def bf(P:Nat→Prop)(w:World)(v:Value)(ks:List El):Prop:=
 ∃a cap,v=.slice a ks.length cap∧ks.length≤cap∧(ks≠[]→∃g o,a=some ⟨g,o,none⟩∧P g∧cE P w ks g o)
def elA(e:El)(u:Value):Array Value:=#[.int .i64 e.cls,.int .i64 e.tag,.bool e.cons,.string ⟨e.bytes.toArray⟩,u]
theorem fE{w w':World}{g i:Nat}(h:w'.heap[g]?=w.heap[g]?):w'.cell? ⟨g,i,none⟩=w.cell? ⟨g,i,none⟩:=by
 simp only[World.cell?,h]
mutual
theorem ElC.kept{P Q:Nat→Prop}{w w':World}(hP:∀g,P g→g<w.heap.size→w'.heap[g]?=w.heap[g]?∧Q g):∀(e:El) (g o:Nat),w'.heap[g]?=w.heap[g]?→ElC P w e g o→ElC Q w' e g o
 | .mk c t k b ks,g,o,hg,h=>by
  simp only[ElC] at h⊢;obtain⟨h0,h1,h2,h3,u,h4,a,cap,hu,hc,hk⟩:=h;refine⟨(fE hg).trans h0,(fE hg).trans h1,(fE hg).trans h2,(fE hg).trans h3,u,(fE hg).trans h4,a,cap,hu,hc,fun hn=>?_⟩;obtain⟨g',o',ha,hp,hs⟩:=hk hn;have hlt:g'<w.heap.size:=by
   cases ks with
   |nil=>exact absurd rfl hn
   |cons e r=>
    simp only[cE] at hs;cases e;have hs1:=hs.1;simp only[ElC] at hs1;exact bj hs1.1
  obtain⟨h5,h6⟩:=hP g' hp hlt;exact⟨g',o',ha,h6,cE.kept hP ks g' o' h5 hs⟩
theorem cE.kept{P Q:Nat→Prop}{w w':World}(hP:∀g,P g→g<w.heap.size→w'.heap[g]?=w.heap[g]?∧Q g):∀(l:List El) (g o:Nat),w'.heap[g]?=w.heap[g]?→cE P w l g o→cE Q w' l g o
 |[],_,_,_,_=>by simp only[cE]
 |e::r,g,o,hg,h=>by
  simp only[cE] at h⊢;exact⟨ElC.kept hP e g o hg h.1,cE.kept hP r g (o+5) hg h.2⟩
end
theorem cE.lt{P:Nat→Prop}{w:World}{ks:List El}{g o:Nat}(hn:ks≠[])(hs:cE P w ks g o):g<w.heap.size:=by
 cases ks with
 |nil=>exact absurd rfl hn
 |cons e r=>
  simp only[cE] at hs;cases e;have hs1:=hs.1;simp only[ElC] at hs1;exact bj hs1.1
theorem bf.kept{P Q:Nat→Prop}{w w':World}{v:Value}{ks:List El}(h:bf P w v ks)(hP:∀g,P g→g<w.heap.size→w'.heap[g]?=w.heap[g]?∧Q g):bf Q w' v ks:=by
 obtain⟨a,cap,hv,hc,hk⟩:=h;refine⟨a,cap,hv,hc,fun hn=>?_⟩;obtain⟨g,o,ha,hp,hs⟩:=hk hn;obtain⟨h1,h2⟩:=hP g hp (hs.lt hn);exact⟨g,o,ha,h2,cE.kept hP ks g o h1 hs⟩
theorem bf.below{P:Nat→Prop}{w w':World}{v:Value}{ks:List El}(h:bf P w v ks)(hb:Bw w w'):bf P w' v ks:=
 h.kept fun g hp hl=>⟨hb.block g hl,hp⟩
theorem bf.mono{P Q:Nat→Prop}{w:World}{v:Value}{ks:List El}(h:bf P w v ks)(hPQ:∀g,P g→g<w.heap.size→Q g):bf Q w v ks:=
 h.kept fun g hp hl=>⟨rfl,hPQ g hp hl⟩
theorem bf.nil(P:Nat→Prop)(w:World):bf P w (Sn) []:=⟨none,0,rfl,ah _,fun h=>absurd rfl h⟩
theorem bf.shape{P:Nat→Prop}{w:World}{v:Value}{ks:List El}(h:bf P w v ks):∃a c,v=.slice a ks.length c:=by
 obtain⟨a,c,e,_⟩:=h;exact⟨a,c,e⟩
theorem cE.get{P:Nat→Prop}{w:World}:∀(l:List El) (g o j:Nat) (e:El),cE P w l g o→l[j]?=some e→ElC P w e g (o+j*5)
 |[],_,_,_,_,_,h=>by simp at h
 |x::r,g,o,0,e,h,hj=>by
  simp at hj;subst hj
  simp only[cE] at h
  simpa using h.1
 |x::r,g,o,j+1,e,h,hj=>by
  simp only[cE] at h;have:=cE.get r g (o+5) j e h.2 (by simpa using hj);rw[show o+(j+1)*5=o+5+j*5 by omega];exact this
theorem ElC.cells{P:Nat→Prop}{w:World}{e:El}{g o:Nat}(h:ElC P w e g o):w.cell? ⟨g,o,none⟩=some (.int .i64 e.cls)∧w.cell? ⟨g,o+1,none⟩=some (.int .i64 e.tag)∧w.cell? ⟨g,o+2,none⟩=some (.bool e.cons)∧w.cell? ⟨g,o+3,none⟩=some (.string ⟨e.bytes.toArray⟩)∧
  ∃u,w.cell? ⟨g,o+4,none⟩=some u∧bf P w u e.kids:=by
 cases e;simp only[ElC] at h;obtain⟨h0,h1,h2,h3,u,h4,a,cap,hu,hc,hk⟩:=h;exact⟨h0,h1,h2,h3,u,h4,a,cap,hu,hc,hk⟩
theorem ElC.mk{P:Nat→Prop}{w:World}{e:El}{g o:Nat}{u:Value}(h0:w.cell? ⟨g,o,none⟩=some (.int .i64 e.cls))(h1:w.cell? ⟨g,o+1,none⟩=some (.int .i64 e.tag))(h2:w.cell? ⟨g,o+2,none⟩=some (.bool e.cons))(h3:w.cell? ⟨g,o+3,none⟩=some (.string ⟨e.bytes.toArray⟩))
  (h4:w.cell? ⟨g,o+4,none⟩=some u) (hk:bf P w u e.kids):ElC P w e g o:=by
 cases e;simp only[ElC];obtain⟨a,cap,hu,hc,hk⟩:=hk;exact⟨h0,h1,h2,h3,u,h4,a,cap,hu,hc,hk⟩
theorem fb(Y:World)(o:Obj)(n:Nat)(h:n=Y.heap.size):(Y.alloc o).heap[n]?=some o:=by subst h;show(Y.heap.push o)[Y.heap.size]?=some o;simp
theorem alz(w:World)(r:Array Value)(t:Nat):(w.alloc (.cells r t)).heap[w.heap.size]?=some (.cells r t (0,0)):=fb _ _ _ rfl
theorem alb(w:World)(r:Array Value)(t:Nat):Below w.heap.size w (w.alloc (.cells r t)):=(aA _ _).alloc (ah _) _
theorem sL{P:Program}(w:World)(mty kt et:TypeId)(r clock:Nat)(es:Array MapEntry)(k:Int)(val:Value)(hm:P.underlying mty=some (.map kt et))(hk:P.underlying kt=some (.int .i64))(hb:w.heap[r]?=some (.map es clock))
  (hf:Instr.findNow (.int .i64) (.int .i64 k) es.toList 0=some none):
  (Instr.mapUpdate mty (.map (some r)) (.int .i64 k) val).run P w=.ok () {w with heap:=w.heap.setIfInBounds r (.map (es.push {key:=.int .i64 k,val:=val,born:=clock}) (clock+1))}:=by
 have hc:(Instr.checkKey false 10000 kt (.int .i64 k)).run P w=.ok () w:=MapKept.run_checkKey (k:=.int .i64 k) hk (by simp[MapKept.IsKey]) false 9999
 simp[Instr.mapUpdate,run_underlying hm,MapKept.run_getObj_map hb,hc,MapKept.run_findKey hk hf,MapKept.run_setObj_map _ hb,Result.andThen]
theorem oE{P:Program}(w:World)(mty kt et:TypeId)(r clock:Nat)(es:Array MapEntry)(k:Int)(val:Value)(hm:P.underlying mty=some (.map kt et))(hk:P.underlying kt=some (.int .i64))(hb:w.heap[r]?=some (.map es clock))
  (hf:Instr.findNow (.int .i64) (.int .i64 k) es.toList 0=some none):
  ∃w',(Instr.mapUpdate mty (.map (some r)) (.int .i64 k) val).run P w=.ok () w'∧w'.heap[r]?=some (.map (es.push {key:=.int .i64 k,val:=val,born:=clock}) (clock+1))∧w'.heap.size=w.heap.size∧(∀j,j≠r→w'.heap[j]?=w.heap[j]?)∧w'.os=w.os∧w'.tape=w.tape∧w'.output=w.output:=by
 refine⟨_,sL w mty kt et r clock es k val hm hk hb hf,?_,?_,?_,rfl,rfl,rfl⟩
 ·have:=(gl hb)
  simp[this]
 ·simp
 ·intro j hj
  simp[Ne.symm hj]
section
variable {P:Program} {md:Region.Mode} {ops:Array Oper} {Q:Exit→Act→World→Prop} {S:World→Prop} {st:Nat}
def wI(P:Program)(md:Region.Mode)(ops:Array Oper)(Q:Exit→Act→World→Prop)(S:World→Prop)(st:Nat):Nat→Array Bool→Act→World→Prop
 |0,listed,a,w=>Region.ready md ops listed=[]∧Q .normal a w
 |fuel+1,listed,a,w=>
  (Region.ready md ops listed=[]→Q .normal a w)∧
  ∀i∈Region.ready md ops listed,wpOp P ops Q i (fun a' w'=>((listed.setIfInBounds i true).getD st false=true∨S w')∧wI P md ops Q S st fuel (listed.setIfInBounds i true) a' w') a w
theorem xV:∀(fuel:Nat) (listed:Array Bool) (a:Act) (w:World),wI P md ops Q S st fuel listed a w→wpAny P md ops Q fuel listed a w
 |0,_,_,_,h=>h
 |fuel+1,_,_,_,h=>⟨h.1,fun i hi=>wpOp_mono (fun a' w' h'=>xV fuel _ a' w' h'.2) (h.2 i hi)⟩
theorem zS{i:Nat}{oi ost:Oper}{v:Value}(hi:ops[i]?=some oi)(hist:i≠st)(host:ops[st]?=some ost)(hwait:∃e∈ost.after,Region.binds md e=true∧e.on=i)
  (hsel:∀(j:Nat) (o:Oper) cs b,ops[j]?=some o→o.op≠.select cs b) (hQ:∀c a w,Q (.panic c) (a.put oi.dst v) w→Q (.panic c) a w):
  ∀(fuel:Nat) (listed:Array Bool) (a:Act) (w:World),
   (∀j oj,ops[j]?=some oj→j≠i→listed.getD j true=false→(∀e∈oj.after,Region.binds md e=true→e.on≠i)→oi.apart ops oj=true)→
   i∈Region.ready md ops listed→YieldsIf P ops S oi v a→listed.getD st false=false→S w→
   wI P md ops Q S st fuel (listed.setIfInBounds i true) (a.put oi.dst v) w→wI P md ops Q S st (fuel+1) listed a w:=by
 intro fuel
 induction fuel with
 |zero=>
  intro listed a w _ hr hy _ hS H;refine⟨fun h=>(by rw[h] at hr;cases hr),fun j hj=>?_⟩
  by_cases hji:j=i
  ·subst hji;exact hy.wpOp hi hS ⟨.inr hS,H⟩
  ·have:=ready_mono hj hji
   rw[H.1] at this;cases this
 |succ fuel ih=>
  intro listed a w hfree hr hy hst hS H;refine⟨fun h=>(by rw[h] at hr;cases hr),fun j hj=>?_⟩
  by_cases hji:j=i
  ·subst hji;exact hy.wpOp hi hS ⟨.inr hS,H⟩
  ·have h1:=H.2 j (ready_mono hj hji)
   obtain⟨hjun,oj,hoj,hall⟩:=mem_ready.1 hj;have hnot:∀e∈oj.after,Region.binds md e=true→e.on≠i:=fun e he hb heq=>by
    have h1:=hall e he hb;have h0:=(mem_ready.1 hr).1;rw[heq] at h1;rcases Nat.lt_or_ge i listed.size with h'|h'
    ·simp[h'] at h0 h1;rw[h0] at h1;cases h1
    ·simp[Array.getElem?_eq_none h'] at h1
   have hjst:j≠st:=by
    rintro rfl;obtain⟨e,he,hb,heq⟩:=hwait;rw[host] at hoj;cases hoj;exact hnot e he hb heq
   have hs1:(listed.setIfInBounds j true).getD st false=false:=by rw[getD_set_ne false hjst];exact hst
   have hs2:((listed.setIfInBounds i true).setIfInBounds j true).getD st false=false:=by rw[getD_set_ne false hjst,getD_set_ne false hist];exact hst
   have h2:=wpOp_putIf hoj (hfree j oj hoj hji hjun hnot) (fun cs b=>hsel i oi cs b hi) (fun cs b=>hsel j oj cs b hoj) hQ hy h1;have hfree':∀k ok,ops[k]?=some ok→k≠i→(listed.setIfInBounds j true).getD k true=false→
     (∀e∈ok.after,Region.binds md e=true→e.on≠i)→oi.apart ops ok=true:=fun k ok hk hki hun hno=>by
    refine hfree k ok hk hki ?_ hno
    by_cases hjk:j=k
    ·subst hjk;exact hjun
    ·rw[getD_set_ne true hjk] at hun;exact hun
   refine wpOp_mono (fun a' w' h3=>?_) h2;have hS':S w':=by
    rcases h3.2.1 with h|h
    ·rw[hs2] at h;cases h
    ·exact h
   refine⟨.inr hS',ih (listed.setIfInBounds j true) a' w' hfree' (ready_mono hr (Ne.symm hji)) h3.1 hs1 hS' ?_⟩;rw[Array.setIfInBounds_comm _ _ hji];exact h3.2.2
theorem CP(i:Nat)(v:Value){oi ost:Oper}{fuel:Nat}{listed:Array Bool}{a:Act}{w:World}(hi:ops[i]?=some oi)(hist:i≠st)(host:ops[st]?=some ost)
  (hwait:(ost.after.toList.any fun e=>Region.binds md e&&decide (e.on=i))=true) (hs:Region.noSelect ops=true) (hf:Region.free md ops listed i=true) (hr:(Region.ready md ops listed).contains i=true)
  (hQ:∀c a w,Q (.panic c) (a.put oi.dst v) w→Q (.panic c) a w) (hw:Region.wanted oi (yielded ops a.tmps)=true) (hy:∀w,S w→(execOp a.eval oi).run P w=.ok (.value v) w) (hst:listed.getD st false=false) (hS:S w)
  (h:∀K':Act→World→Prop,(∀a w,wI P md ops Q S st fuel (listed.setIfInBounds i true) a w→K' a w)→K' (a.put oi.dst v) w):wI P md ops Q S st (fuel+1) listed a w:=by
 refine zS hi hist host ?_ (Region.noSelect_spec hs) hQ fuel listed a w (Region.free_spec hi hf) (by simpa using hr) (.inl ⟨hw,hy⟩) hst hS (h _ (fun _ _ k=>k));obtain⟨e,he,hb⟩:=List.any_eq_true.1 hwait;simp only[aI,aT] at hb;exact⟨e,by simpa using he,hb.1,hb.2⟩
theorem Aq{i:Nat}{oi:Oper}{v:Value}(hi:ops[i]?=some oi)(hist:i≠st)
  (hsel:∀(j:Nat) (o:Oper) cs b,ops[j]?=some o→o.op≠.select cs b) (hQ:∀c a w,Q (.panic c) (a.put oi.dst v) w→Q (.panic c) a w):
  ∀(fuel:Nat) (listed:Array Bool) (a:Act) (w:World),
   (∀j oj,ops[j]?=some oj→j≠i→listed.getD j true=false→(∀e∈oj.after,Region.binds md e=true→e.on≠i)→oi.apart ops oj=true)→
   i∈Region.ready md ops listed→YieldsIf P ops (fun _=>True) oi v a→(listed.getD st false=true∨S w)→
   wI P md ops Q S st fuel (listed.setIfInBounds i true) (a.put oi.dst v) w→wI P md ops Q S st (fuel+1) listed a w:=by
 intro fuel
 induction fuel with
 |zero=>
  intro listed a w _ hr hy hS H;refine⟨fun h=>(by rw[h] at hr;cases hr),fun j hj=>?_⟩
  by_cases hji:j=i
  ·subst hji;exact hy.wpOp hi trivial ⟨by rw[getD_set_ne false hist];exact hS,H⟩
  ·have:=ready_mono hj hji
   rw[H.1] at this;cases this
 |succ fuel ih=>
  intro listed a w hfree hr hy hS H;refine⟨fun h=>(by rw[h] at hr;cases hr),fun j hj=>?_⟩
  by_cases hji:j=i
  ·subst hji;exact hy.wpOp hi trivial ⟨by rw[getD_set_ne false hist];exact hS,H⟩
  ·have h1:=H.2 j (ready_mono hj hji)
   obtain⟨hjun,oj,hoj,hall⟩:=mem_ready.1 hj;have hnot:∀e∈oj.after,Region.binds md e=true→e.on≠i:=fun e he hb heq=>by
    have h1:=hall e he hb;have h0:=(mem_ready.1 hr).1;rw[heq] at h1;rcases Nat.lt_or_ge i listed.size with h'|h'
    ·simp[h'] at h0 h1;rw[h0] at h1;cases h1
    ·simp[Array.getElem?_eq_none h'] at h1
   have h2:=wpOp_putIf hoj (hfree j oj hoj hji hjun hnot) (fun cs b=>hsel i oi cs b hi) (fun cs b=>hsel j oj cs b hoj) hQ hy h1;have hfree':∀k ok,ops[k]?=some ok→k≠i→(listed.setIfInBounds j true).getD k true=false→
     (∀e∈ok.after,Region.binds md e=true→e.on≠i)→oi.apart ops ok=true:=fun k ok hk hki hun hno=>by
    refine hfree k ok hk hki ?_ hno
    by_cases hjk:j=k
    ·subst hjk;exact hjun
    ·rw[getD_set_ne true hjk] at hun;exact hun
   refine wpOp_mono (fun a' w' h3=>?_) h2;have hS':(listed.setIfInBounds j true).getD st false=true∨S w':=by
    rcases h3.2.1 with h|h
    ·rw[Array.setIfInBounds_comm _ _ (Ne.symm hji),getD_set_ne false hist] at h
     exact .inl h
    ·exact .inr h
   refine⟨hS',ih (listed.setIfInBounds j true) a' w' hfree' (ready_mono hr (Ne.symm hji)) h3.1 hS' ?_⟩;rw[Array.setIfInBounds_comm _ _ hji];exact h3.2.2
theorem rg(i:Nat)(v:Value){oi:Oper}{fuel:Nat}{listed:Array Bool}{a:Act}{w:World}(hi:ops[i]?=some oi)(hist:i≠st)
  (hs:Region.noSelect ops=true) (hf:Region.free md ops listed i=true) (hr:(Region.ready md ops listed).contains i=true)
  (hQ:∀c a w,Q (.panic c) (a.put oi.dst v) w→Q (.panic c) a w) (hw:Region.wanted oi (yielded ops a.tmps)=true) (hy:∀w,(execOp a.eval oi).run P w=.ok (.value v) w) (hS:listed.getD st false=true∨S w)
  (h:∀K':Act→World→Prop,(∀a w,wI P md ops Q S st fuel (listed.setIfInBounds i true) a w→K' a w)→K' (a.put oi.dst v) w):wI P md ops Q S st (fuel+1) listed a w:=
 Aq hi hist (Region.noSelect_spec hs) hQ fuel listed a w (Region.free_spec hi hf) (by simpa using hr) (.inl ⟨hw,fun w _=>hy w⟩) hS (h _ (fun _ _ k=>k))
theorem nC(i:Nat){o:Oper}{fuel:Nat}{listed:Array Bool}{a:Act}{w:World}(hr:Region.ready md ops listed=[i])(ho:ops[i]?=some o)(hw:Region.wanted o (yielded ops a.tmps)=true)
  (h:∀K':Act→World→Prop,(∀a w,((listed.setIfInBounds i true).getD st false=true∨S w)→wI P md ops Q S st fuel (listed.setIfInBounds i true) a w→K' a w)→Oper.wp P o a w K' Q):wI P md ops Q S st (fuel+1) listed a w:=by
 refine⟨fun h0=>(by rw[hr] at h0;cases h0),fun j hj=>?_⟩;rw[hr] at hj;simp only[List.mem_singleton] at hj;subst hj;unfold wpOp;rw[ho];simp only[hw,if_true];exact .inl (h _ (fun _ _ s k=>⟨s,k⟩))
theorem CQ{listed:Array Bool}{a:Act}{w:World}(hr:Region.ready md ops listed=[])(h:Q .normal a w):∀fuel,wI P md ops Q S st fuel listed a w
 |0=>⟨hr,h⟩
 |_+1=>⟨fun _=>h,by rw[hr];simp⟩
theorem zE{id:Nat}{a:Act}{w:World}(hm:P.follows .mixedOrders=true)
  (h:wI P .any ops Q S st ops.size (Array.replicate ops.size false) a w.drew):(Code.region id ops true).wp P Q a w:=
 wp_region_any hm (xV _ _ _ _ h)
end
theorem ge{w w':World}{base e size n:Nat}{v:Value}{xs:List Value}(h:w.ownsRow base e size v n xs)(hb:Bw w w'):w'.ownsRow base e size v n xs:=by
 refine⟨h.1,?_⟩;rcases h.2 with hn|⟨g,cap,cur,rfl,hbg,hg,rest⟩
 ·exact .inl hn
 ·exact .inr ⟨g,cap,cur,rfl,hbg,by rw[hb.block g (gl hg)];exact hg,rest⟩
theorem kW(w:World)(b i:Nat)(v:Value):w.grownBy (w.setCell ⟨b,i,none⟩ v) (some b):=
 ⟨rfl,rfl,rfl,Nat.le_of_eq (by simp),fun k _ hne=>aX w ⟨b,i,none⟩ v k (fun e=>hne (congrArg some e))⟩
theorem dH{w:World}{base e size n g cap i:Nat}{xs:List Value}{x:Value}(h:w.ownsRow base e size (.slice (some ⟨g,0,none⟩) n cap) n xs)(_hi:i<xs.length):
  (w.setCell ⟨g,i,none⟩ x).ownsRow base e size (.slice (some ⟨g,0,none⟩) n cap) n (xs.set i x):=by
 refine⟨by rw[List.length_set];exact h.1,?_⟩;rcases h.2 with⟨h1,_⟩|⟨g',cap',cur,hv,hb,hg,hc,hm,hs,ht⟩
 ·cases h1
 ·cases hv
  refine .inr ⟨g,cap,cur.setIfInBounds i x,rfl,hb,?_,hc,hm,by simpa using hs,?_⟩
  ·simp[World.setCell,Array.getElem?_modify,hg]
  ·rw[Array.toList_setIfInBounds,List.take_set,ht]
theorem cJ{w:World}{base e size n g cap:Nat}{xs:List Value}(h:w.ownsRow base e size (.slice (some ⟨g,0,none⟩) n cap) n xs){i:Nat}{x:Value}(hi:xs[i]?=some x):w.cell? ⟨g,i,none⟩=some x∧w.frozen? ⟨g,i,none⟩=false:=by
 have hadd:(⟨g,0,none⟩:Addr).add i=⟨g,i,none⟩:=by unfold Addr.add;split<;>simp_all
 have k1:=h.cells (g:=g) rfl _ _ hi;rw[hadd] at k1;refine⟨k1,?_⟩;rcases h.2 with⟨h1,_⟩|⟨g',cap',cur,hv,hb,hg,_⟩
 ·cases h1
 ·cases hv
  exact aj hg i
theorem cq{w:World}{C i:Nat}{cs:Array Value}{t:TypeId}{u:Value}(h:w.heap[C]?=some (.cells cs t (0,0))):(w.setCell ⟨C,i,none⟩ u).heap[C]?=some (.cells (cs.setIfInBounds i u) t (0,0)):=by
 simp[World.setCell,Array.getElem?_modify,h]
theorem gf{w:World}{base e size n:Nat}{v:Value}{xs:List Value}(h:w.ownsRow base e size v n xs):∃a c,v=.slice a n c:=by
 rcases h.2 with⟨rfl,h0⟩|⟨g,cap,cur,rfl,_⟩
 ·exact⟨none,0,by rw[h0]⟩
 ·exact⟨_,_,rfl⟩
theorem Cb{w:World}{base base' e size n:Nat}{v:Value}{xs:List Value}(h:w.ownsRow base e size v n xs)(hb:base'≤base):w.ownsRow base' e size v n xs:=by
 refine⟨h.1,?_⟩;rcases h.2 with h1|⟨g,cap,cur,h1,h2,h3⟩
 ·exact .inl h1
 ·exact .inr ⟨g,cap,cur,h1,Nat.le_trans hb h2,h3⟩
theorem fU{B:Nat}{a w:World}(h:Below B a w)(n:Nat):Below B a (w.drewN n):=⟨h.os,h.tape,h.output,h.size,h.block⟩
theorem bg{P:Program}{w:World}{ops:Array Oper}{rest:List Oper}{o:Oper}{a:Act}{Q:Exit→Act→World→Prop}(hgd:o.guard=none)(t:TypeId)(x:Operand)(ho:o.op=.load t x)
  (g:Nat) (ty:TypeId) (cs:Array Value) (fr:Nat×Nat) (hx:a.eval x=.pointer (some ⟨g,0,none⟩)) (hg:w.heap[g]?=some (.cells cs ty fr)) (d:TypeDesc) (hu:P.underlying t=some d)
  (hd:(match d with| .struct _| .array _ _=>true|_=>false)=true) (hi:(P.info? t).map (·.size)=some cs.size)
  (h:wpList P ops Q rest (a.put o.dst (.agg cs)) w):wpList P ops Q (o::rest) a w:=by
 refine aB hgd fun K hK=>?_
 have hr:=aJ (P:=P) w g ty t cs fr d hg hu hd hi;unfold Oper.wp execOp;simp only[ho,hx,Instr.loadAt,Instr.sureAddr,Sem.run_bind,Sem.run_pure,Result.andThen_ok,hr];exact hK _ _ h
theorem bh{P:Program}{w:World}{ops:Array Oper}{rest:List Oper}{o:Oper}{a:Act}{Q:Exit→Act→World→Prop}(hgd:o.guard=none)(t:TypeId)(x y:Operand)(ho:o.op=.store t x y)
  (g:Nat) (ty:TypeId) (old cs:Array Value) (hx:a.eval x=.pointer (some ⟨g,0,none⟩)) (hy:a.eval y=.agg cs) (hg:w.heap[g]?=some (.cells old ty (0,0))) (hi:(P.info? t).map (·.size)=some cs.size) (hs:old.size=cs.size) (h1:cs.all (·.oneCell')=true)
  (h:wpList P ops Q rest (a.put o.dst (.tuple #[])) (w.setRow g cs)):wpList P ops Q (o::rest) a w:=by
 refine aB hgd fun K hK=>?_
 have hr:=run_storeVar_row (P:=P) w g ty t old cs hg hi hs h1;unfold Oper.wp execOp;simp only[ho,hx,hy,Instr.storeAt,Instr.sureAddr,Sem.run_bind,Sem.run_pure,Result.andThen_ok,hr];exact hK _ _ h
theorem rlM{w:World}{g:Nat}{cs:Array Value}(hg:Hc w g cs 32)(hs:cs.size=28):Sem.run Tryz.prog (loadVar 32 ⟨g,0,none⟩) w=.ok (.agg cs) w:=aJ (P:=Tryz.prog) w g 32 32 cs (0,0) _ hg (show Tryz.prog.underlying 32=_ from Tryz.underlying32) (by rfl) (by rw[hs];rfl)
theorem rlE{w:World}{g:Nat}{cs:Array Value}(hg:Hc w g cs 40)(hs:cs.size=5):Sem.run Tryz.prog (loadVar 40 ⟨g,0,none⟩) w=.ok (.agg cs) w:=aJ (P:=Tryz.prog) w g 40 40 cs (0,0) _ hg (show Tryz.prog.underlying 40=_ from Tryz.underlying40) (by rfl) (by rw[hs];rfl)
theorem ldM{w:World}{ops:Array Oper}{rest:List Oper}{o:Oper}{a:Act}{Q:Exit→Act→World→Prop}(x:Operand){g:Nat}{cs:Array Value}(hg:Hc w g cs 32)(hs:cs.size=28)
 (h:wpList Tryz.prog ops Q rest (a.put o.dst (.agg cs)) w) (hgd:o.guard=none:=by rfl) (ho:o.op=.load 32 x:=by rfl) (hx:a.eval x=.pointer (some ⟨g,0,none⟩):=by rfl):wpList Tryz.prog ops Q (o::rest) a w:=bg hgd 32 x ho g 32 cs (0,0) hx hg _ Tryz.underlying32 rfl (by rw[hs];rfl) h
theorem stM{w:World}{ops:Array Oper}{rest:List Oper}{o:Oper}{a:Act}{Q:Exit→Act→World→Prop}(x y:Operand)(cs:Array Value){g:Nat}{old:Array Value}(hg:Hc w g old 32)(hs:cs.size=28)(h1:cs.all (·.oneCell')=true)
 (h:wpList Tryz.prog ops Q rest (a.put o.dst (.tuple #[])) (w.setRow g cs)) (hgd:o.guard=none:=by rfl) (ho:o.op=.store 32 x y:=by rfl) (hx:a.eval x=.pointer (some ⟨g,0,none⟩):=by rfl) (hy:a.eval y=.agg cs:=by rfl) (h0:old.size=28:=by rfl):wpList Tryz.prog ops Q (o::rest) a w:=bh hgd 32 x y ho g 32 old cs hx hy hg (by rw[hs];rfl) (by rw[h0,hs]) h1 h
theorem ldE{w:World}{ops:Array Oper}{rest:List Oper}{o:Oper}{a:Act}{Q:Exit→Act→World→Prop}(x:Operand){g:Nat}{cs:Array Value}(hg:Hc w g cs 40)(hs:cs.size=5)
 (h:wpList Tryz.prog ops Q rest (a.put o.dst (.agg cs)) w) (hgd:o.guard=none:=by rfl) (ho:o.op=.load 40 x:=by rfl) (hx:a.eval x=.pointer (some ⟨g,0,none⟩):=by rfl):wpList Tryz.prog ops Q (o::rest) a w:=bg hgd 40 x ho g 40 cs (0,0) hx hg _ Tryz.underlying40 rfl (by rw[hs];rfl) h
theorem stE{w:World}{ops:Array Oper}{rest:List Oper}{o:Oper}{a:Act}{Q:Exit→Act→World→Prop}(x y:Operand)(cs:Array Value){g:Nat}{old:Array Value}(hg:Hc w g old 40)(hs:cs.size=5)(h1:cs.all (·.oneCell')=true)
 (h:wpList Tryz.prog ops Q rest (a.put o.dst (.tuple #[])) (w.setRow g cs)) (hgd:o.guard=none:=by rfl) (ho:o.op=.store 40 x y:=by rfl) (hx:a.eval x=.pointer (some ⟨g,0,none⟩):=by rfl) (hy:a.eval y=.agg cs:=by rfl) (h0:old.size=5:=by rfl):wpList Tryz.prog ops Q (o::rest) a w:=bh hgd 40 x y ho g 40 old cs hx hy hg (by rw[hs];rfl) (by rw[h0,hs]) h1 h
theorem pP(w:World)(b:Nat)(cs:Array Value):w.grownBy (w.setRow b cs) (some b):=
 ⟨rfl,rfl,rfl,by simp[World.setRow],fun k _ hne=>setRow_other w b k cs (fun e=>hne (congrArg some e))⟩
theorem xo{B g:Nat}{a w:World}(h:Below B a w)(hg:B≤g)(cs:Array Value):Below B a (w.setRow g cs):=
 h.trans ⟨rfl,rfl,rfl,by simp[World.setRow],fun k hk=>setRow_other w g k cs (by omega)⟩
theorem cU{P:Program}{w:World}{o:Oper}{a:Act}(t:TypeId)(x:Operand)(ho:o.op=.load t x)
  (g:Nat) (ty:TypeId) (cs:Array Value) (fr:Nat×Nat) (hx:a.eval x=.pointer (some ⟨g,0,none⟩)) (hg:w.heap[g]?=some (.cells cs ty fr)) (d:TypeDesc) (hu:P.underlying t=some d)
  (hd:(match d with| .struct _| .array _ _=>true|_=>false)=true) (hi:(P.info? t).map (·.size)=some cs.size):(execOp a.eval o).run P w=.ok (.value (.agg cs)) w:=by
 have hr:=aJ (P:=P) w g ty t cs fr d hg hu hd hi;unfold execOp;simp only[ho,hx,Instr.loadAt,Instr.sureAddr,Sem.run_bind,Sem.run_pure,Result.andThen_ok,hr]
theorem bQ{P:Program}{w:World}{ops:Array Oper}{rest:List Oper}{o:Oper}{a:Act}{Q:Exit→Act→World→Prop}(hwd:Region.wanted o (yielded ops a.tmps)=true)(t:TypeId)(x:Operand)(ho:o.op=.load t x)
  (g:Nat) (ty:TypeId) (cs:Array Value) (fr:Nat×Nat) (hx:a.eval x=.pointer (some ⟨g,0,none⟩)) (hg:w.heap[g]?=some (.cells cs ty fr)) (d:TypeDesc) (hu:P.underlying t=some d)
  (hd:(match d with| .struct _| .array _ _=>true|_=>false)=true) (hi:(P.info? t).map (·.size)=some cs.size)
  (h:wpList P ops Q rest (a.put o.dst (.agg cs)) w):wpList P ops Q (o::rest) a w:=by
 refine wpList_step fun K hK=>?_
 rw[if_pos hwd];have hr:=aJ (P:=P) w g ty t cs fr d hg hu hd hi;unfold Oper.wp execOp;simp only[ho,hx,Instr.loadAt,Instr.sureAddr,Sem.run_bind,Sem.run_pure,Result.andThen_ok,hr];exact hK _ _ h
theorem pQ{P:Program}{md:Region.Mode}{ops:Array Oper}{Q:Exit→Act→World→Prop}{S:World→Prop}(i:Nat)(v:Value){oi:Oper}{fuel:Nat}{listed:Array Bool}{a:Act}{w:World}(hi:ops[i]?=some oi)
  (hs:Region.noSelect ops=true) (hf:Region.free md ops listed i=true) (hr:(Region.ready md ops listed).contains i=true) (hQ:∀c a w,Q (.panic c) (a.put oi.dst v) w→Q (.panic c) a w)
  (hw:Region.wanted oi (yielded ops a.tmps)=true) (hy:∀w,S w→(execOp a.eval oi).run P w=.ok (.value v) w) (hS:S w)
  (h:∀K':Act→World→Prop,(∀a w,wpAnyH P md ops Q S fuel (listed.setIfInBounds i true) a w→K' a w)→K' (a.put oi.dst v) w):wpAnyH P md ops Q S (fuel+1) listed a w:=
 wpAnyH_take hi hs hf hr hQ (Or.inl ⟨hw,hy⟩) hS (h _ (fun _ _ k=>k))
theorem tk{P:Program}{md:Region.Mode}{ops:Array Oper}{Q:Exit→Act→World→Prop}{S:World→Prop}(i:Nat)(v:Value){oi:Oper}{fuel:Nat}{listed:Array Bool}{a:Act}{w:World}(hi:ops[i]?=some oi)
 (hy:∀w,S w→(execOp a.eval oi).run P w=.ok (.value v) w) (hS:S w)
 (h:∀K':Act→World→Prop,(∀a w,wpAnyH P md ops Q S fuel (listed.setIfInBounds i true) a w→K' a w)→K' (a.put oi.dst v) w)
 (hs:Region.noSelect ops=true:=by kernel_rfl) (hf:Region.free md ops listed i=true:=by kernel_rfl) (hr:(Region.ready md ops listed).contains i=true:=by kernel_rfl) (hQ:∀c a w,Q (.panic c) (a.put oi.dst v) w→Q (.panic c) a w:=by exact fun _ _ _ h=>h)
 (hw:Region.wanted oi (yielded ops a.tmps)=true:=by rfl):wpAnyH P md ops Q S (fuel+1) listed a w:=
 pQ i v hi hs hf hr hQ hw hy hS h
theorem tn{P:Program}{md:Region.Mode}{ops:Array Oper}{Q:Exit→Act→World→Prop}{S:World→Prop}(i:Nat)(v:Value){oi:Oper}{fuel:Nat}{listed:Array Bool}{a a':Act}{w:World}(hi:ops[i]?=some oi)
 (hy:∀w,S w→(execOp a.eval oi).run P w=.ok (.value v) w) (hS:S w) (h:wpAnyH P md ops Q S fuel (listed.setIfInBounds i true) a' w) (ha:a.put oi.dst v=a':=by first|(go_simp;rfl)|rfl)
 (hs:Region.noSelect ops=true:=by kernel_rfl) (hf:Region.free md ops listed i=true:=by kernel_rfl) (hr:(Region.ready md ops listed).contains i=true:=by kernel_rfl) (hQ:∀c a w,Q (.panic c) (a.put oi.dst v) w→Q (.panic c) a w:=by exact fun _ _ _ h=>h)
 (hw:Region.wanted oi (yielded ops a.tmps)=true:=by rfl):wpAnyH P md ops Q S (fuel+1) listed a w:=
 tk i v hi hy hS (fun _ hK=>hK _ _ (ha▸h)) hs hf hr hQ hw
theorem tp{P:Program}{md:Region.Mode}{ops:Array Oper}{Q:Exit→Act→World→Prop}{S:World→Prop}(i:Nat)(p:Addr){oi:Oper}{fuel:Nat}{listed:Array Bool}{a a':Act}{w:World}(hi:ops[i]?=some oi)
 (hS:S w) (h:wpAnyH P md ops Q S fuel (listed.setIfInBounds i true) a' w) (hy:∀w,S w→(execOp a.eval oi).run P w=.ok (.value (.pointer (some p))) w:=by intro w' hS;go_simp) (ha:a.put oi.dst (.pointer (some p))=a':=by first|(go_simp;rfl)|rfl)
 (hs:Region.noSelect ops=true:=by kernel_rfl) (hf:Region.free md ops listed i=true:=by kernel_rfl) (hr:(Region.ready md ops listed).contains i=true:=by kernel_rfl) (hQ:∀c a w,Q (.panic c) (a.put oi.dst (.pointer (some p))) w→Q (.panic c) a w:=by exact fun _ _ _ h=>h)
 (hw:Region.wanted oi (yielded ops a.tmps)=true:=by rfl):wpAnyH P md ops Q S (fuel+1) listed a w:=
 tn i _ hi hy hS h ha hs hf hr hQ hw
theorem rn{P:Program}{md:Region.Mode}{ops:Array Oper}{Q:Exit→Act→World→Prop}{S:World→Prop}(i:Nat){o:Oper}{fuel:Nat}{listed:Array Bool}{a:Act}{w:World}
  (hr:Region.ready md ops listed=[i]) (ho:ops[i]?=some o) (hw:Region.wanted o (yielded ops a.tmps)=true)
  (h:∀K':Act→World→Prop,(∀a w,S w→wpAnyH P md ops Q S fuel (listed.setIfInBounds i true) a w→K' a w)→Oper.wp P o a w K' Q):wpAnyH P md ops Q S (fuel+1) listed a w:=
 wpAnyH_all hr (by simp) (fun j hj=>by
  simp only[List.mem_singleton] at hj;subst hj;unfold wpOp;rw[ho];simp only[hw,if_true];exact .inl (h _ (fun _ _ s k=>⟨s,k⟩)))
theorem ao{P:Program}{md:Region.Mode}{ops:Array Oper}{Q:Exit→Act→World→Prop}{S:World→Prop}(i:Nat){o:Oper}{fuel:Nat}{listed:Array Bool}{a:Act}{w:World}
 (ho:ops[i]?=some o) (h:∀K':Act→World→Prop,(∀a w,S w→wpAnyH P md ops Q S fuel (listed.setIfInBounds i true) a w→K' a w)→Oper.wp P o a w K' Q) (hr:Region.ready md ops listed=[i]:=by kernel_rfl)
 (hw:Region.wanted o (yielded ops a.tmps)=true:=by rfl):wpAnyH P md ops Q S (fuel+1) listed a w:=rn i hr ho hw h
theorem fq{P:Program}{md:Region.Mode}{ops:Array Oper}{Q:Exit→Act→World→Prop}{S:World→Prop}(i j:Nat){o o':Oper}{fuel:Nat}{listed:Array Bool}{a:Act}{w:World}
  (hr:Region.ready md ops listed=[i,j]) (ho:ops[i]?=some o) (hw:Region.wanted o (yielded ops a.tmps)=true) (ho':ops[j]?=some o') (hw':Region.wanted o' (yielded ops a.tmps)=true)
  (h:∀K':Act→World→Prop,(∀a w,S w→wpAnyH P md ops Q S fuel (listed.setIfInBounds i true) a w→K' a w)→Oper.wp P o a w K' Q)
  (h':∀K':Act→World→Prop,(∀a w,S w→wpAnyH P md ops Q S fuel (listed.setIfInBounds j true) a w→K' a w)→Oper.wp P o' a w K' Q):wpAnyH P md ops Q S (fuel+1) listed a w:=
 wpAnyH_all hr (by simp) (fun k hk=>by
  simp only[aY,aZ,or_false] at hk;rcases hk with rfl|rfl
  ·unfold wpOp
   rw[ho];simp only[hw,if_true];exact .inl (h _ (fun _ _ s k=>⟨s,k⟩))
  ·unfold wpOp
   rw[ho'];simp only[hw',if_true];exact .inl (h' _ (fun _ _ s k=>⟨s,k⟩)))
theorem Tryz.infoElement:(Tryz.prog.info? 40).map (fun i=>(i.zero,i.size,i.bytes))=some (some (.agg Ze),5,64):=by kernel_rfl
def cx:List El→List Value→List Value
 |[],_=>[]
 |_::_,[]=>[]
 |e::es,u::us=>.int .i64 e.cls::.int .i64 e.tag::.bool e.cons::.string ⟨e.bytes.toArray⟩::u::cx es us
theorem iY:∀(es:List El) (us:List Value),us.length=es.length→(cx es us).length=es.length*5
 |[],_,_=>rfl
 |_::_,[],h=>by simp at h
 |e::es,u::us,h=>by
  have:=iY es us (by simpa using h);simp only[cx,aG,this]
  omega
theorem EM:∀(es:List El) (us:List Value) (e:El) (u:Value),us.length=es.length→cx (es++[e]) (us++[u])=cx es us++[.int .i64 e.cls,.int .i64 e.tag,.bool e.cons,.string ⟨e.bytes.toArray⟩,u]
 |[],[],_,_,_=>rfl
 |[],_::_,_,_,h=>by simp at h
 |_::_,[],_,_,h=>by simp at h
 |x::es,v::us,e,u,h=>by
  have:=EM es us e u (by simpa using h);simp only[List.cons_append,cx,this]
theorem iZ:∀(es:List El) (us:List Value) (j:Nat) (e:El) (u:Value),es[j]?=some e→us[j]?=some u→
  (cx es us)[j*5]?=some (.int .i64 e.cls)∧(cx es us)[j*5+1]?=some (.int .i64 e.tag)∧(cx es us)[j*5+2]?=some (.bool e.cons)∧(cx es us)[j*5+3]?=some (.string ⟨e.bytes.toArray⟩)∧(cx es us)[j*5+4]?=some u
 |[],_,_,_,_,h,_=>by simp at h
 |_::_,[],_,_,_,_,h=>by simp at h
 |x::es,v::us,0,e,u,h1,h2=>by
  simp at h1 h2;subst h1 h2
  exact⟨rfl,rfl,rfl,rfl,rfl⟩
 |x::es,v::us,j+1,e,u,h1,h2=>by
  have:=iZ es us j e u (by simpa using h1) (by simpa using h2);rw[show(j+1)*5=j*5+5 by omega];exact this
theorem cE.of{P:Nat→Prop}{w:World}:∀(l:List El) (g o:Nat),(∀(j:Nat) (e:El),l[j]?=some e→ElC P w e g (o+j*5))→cE P w l g o
 |[],_,_,_=>by simp only[cE]
 |x::r,g,o,h=>by
  simp only[cE];refine⟨by simpa using h 0 x rfl,cE.of r g (o+5) fun j e hj=>?_⟩;have:=h (j+1) e (by simpa using hj);rw[show o+(j+1)*5=o+5+j*5 by omega] at this;exact this
theorem jI{P:Nat→Prop}{N:Nat}{w:World}{v:Value}{l:List El}{us:List Value}(h:w.ownsRow N 40 5 v l.length (cx l us))(hl:us.length=l.length)
  (hk:∀(j:Nat) (e:El) (u:Value),l[j]?=some e→us[j]?=some u→bf P w u e.kids) (hP:∀g,N≤g→P g):bf P w v l:=by
 rcases id h.2 with⟨rfl,h0⟩|⟨g,cap,cur,rfl,hb,hg,hc,_⟩
 ·have:l=[]:=List.length_eq_zero_iff.1 h0
  subst this;exact bf.nil _ _
 ·refine⟨some ⟨g,0,none⟩,cap,rfl,hc,fun _=>⟨g,0,rfl,hP g hb,cE.of l g 0 fun j e hj=>?_⟩⟩
  obtain⟨u,hu⟩:∃u,us[j]?=some u:=⟨us[j]'(by rw[hl];exact(List.getElem?_eq_some_iff.1 hj).1),aM _⟩;obtain⟨q0,q1,q2,q3,q4⟩:=iZ l us j e u hj hu;rw[Nat.zero_add];exact ElC.mk (cJ h q0).1 (cJ h q1).1 (cJ h q2).1 (cJ h q3).1 (cJ h q4).1 (hk j e u hj hu)
-- COPIES
def uZ(w:World)(l:List El)(v i:Value)(wr:World):Prop:=
 ∃(k:Nat) (us:List Value),i=.int .i64 (k:Int)∧k≤l.length∧wr.ownsRow w.heap.size 40 5 v k (cx (l.take k) us)∧us.length=k∧Bw w wr∧
  ∀(j:Nat) (e:El) (u:Value),(l.take k)[j]?=some e→us[j]?=some u→bf (fun g=>w.heap.size≤g∧v.ownBlock≠some g) wr u e.kids
theorem dV{e:El}(h:SmE e):e.bytes.length≤1000000000∧e.kids.length≤1000000000∧SmL e.kids:=by
 cases e
 simpa only[SmE,El.bytes,El.kids] using h
theorem eu(e:El):ex e=fT e.kids+1:=by
 cases e;simp only[ex,El.kids]
theorem DQ(n:Nat):∀(l:List El),fT l≤n→SmL l→l.length≤1000000000→∀(v:Value) (w:World),bf (fun _=>True) w v l→
  Calls Tryz.prog 32 #[v] w fun e w'=>(∃v',e=.returned v'∧bf (fun g=>w.heap.size≤g) w' v' l)∧Bw w w':=by
 induction n using Nat.strongRecOn with
 |ind n ih=>
 intro l hd hs hll v w h;obtain⟨i0,hi0,hz0,hz1,hz2⟩:=info_parts Tryz.infoElement;obtain⟨H,HD,HS,IH⟩:=Ci h hd hs ih;clear hd hs ih;obtain⟨a,cap,rfl,hc,hk0⟩:=h;clear hk0
 go_enter Tryz.func32,Tryz.ntmps32
 go_wp2_with fail
 go_loopw [3,8] (fun v i wr=>uZ w l v i wr) (fun _ i _=>l.length -(RowKit.intOf i).toNat)
 case atStart=>exact⟨0,[],rfl,Nat.zero_le _,World.ownsRow_nil _ _ _ _,rfl,aA _ _,fun j e u h=>by simp at h⟩
 case round=>
  obtain⟨k,us,rfl,hk,hown,hul,hbe,hkids⟩:=hrel;obtain⟨av,cv,hfv⟩:=gf hown;subst hfv
  by_cases hkl:k<l.length
  ·obtain⟨e,he⟩:∃e,l[k]?=some e:=⟨l[k],aM hkl⟩
   obtain⟨a',cap',e',_,hsrc⟩:=H.out.below hbe;cases e';obtain⟨g,o,ha,_,hcells⟩:=hsrc (by intro h0;rw[h0] at hkl;simp at hkl);subst ha;obtain⟨p0,p1,p2,p3,u,p4,hu⟩:=(cE.get l g o k e hcells he).cells;obtain⟨au,cu,hfu⟩:=hu.shape;subst hfu;obtain⟨sb,sk,sl⟩:=dV (eV l k e HS.out he);have hdep:fT e.kids<n:=by have h1:=eK l k e he;have h2:=eu e;have:=HD.out;omega
   have i1:(k:Int)<(l.length:Int):=by omega
   have i3:decide ((k:Int)<(l.length:Int))=true:=aC i1;have hlt:=hown.lt;obtain⟨HE,HK,HO⟩:=Ch he hkids hown;have hszr:=hbe.size;clear hsrc hcells he hkids hown
   go_wp2_with fail
   have n1:=alb wr (Er e au cu) 40;have n2:Hc (wr.alloc (.cells (Er e au cu) 40)) wr.heap.size (elA e (.slice au e.kids.length cu)) 40:=fb _ _ _ rfl;generalize wr.alloc (.cells (Er e au cu) 40)=w1 at n1 n2⊢;have q4:=cval n2 4 (.slice au e.kids.length cu);have kc:=IH.out (fT e.kids) hdep e.kids (ah _) sl sk _ w1 (hu.below n1);refine ag kc ?_;rintro e2 w2 ⟨⟨u2,rfl,hu2⟩,hb2⟩;obtain⟨a2,c2,hf2⟩:=hu2.shape;subst hf2;have hB1:=(gl n2);have n3:=(hb2.block _ hB1).trans n2;have q5:=(hb2.cell (bj q4)).trans q4;have z5:=aj n3 4;have n4:Hc (w2.setCell ⟨wr.heap.size,4,none⟩ (.slice a2 e.kids.length c2)) wr.heap.size (Er e a2 c2) 40:=cq (i:=4) (u:=.slice a2 e.kids.length c2) n3;have hown3:(w2.setCell ⟨wr.heap.size,4,none⟩ (.slice a2 e.kids.length c2)).ownsRow w.heap.size 40 5 (.slice av k cv) k (cx (l.take k) us):=
    (ge (ge HO.out n1) hb2).kept (kW w2 wr.heap.size 4 _) (.inr (fun h=>by have:=(hlt _ h).2;omega))
   have hs1:=n1.size;have hs2:=hb2.size;have hs3:(w2.setCell ⟨wr.heap.size,4,none⟩ (.slice a2 e.kids.length c2)).heap.size=w2.heap.size:=by simp[World.setCell]
   have hB3:Bw w (w2.setCell ⟨wr.heap.size,4,none⟩ (.slice a2 e.kids.length c2)):=((hbe.trans (n1.mono hszr)).trans (hb2.mono (by omega))).setCell (p:=⟨wr.heap.size,4,none⟩) hszr _;have hold:∀g,g<wr.heap.size→(w2.setCell ⟨wr.heap.size,4,none⟩ (.slice a2 e.kids.length c2)).heap[g]?=wr.heap[g]?:=fun g hg=>(aX w2 ⟨wr.heap.size,4,none⟩ _ g (by show g≠wr.heap.size;omega)).trans ((hb2.block g (by omega)).trans (n1.block g hg))
   have hnew:∀g,w1.heap.size≤g→(w2.setCell ⟨wr.heap.size,4,none⟩ (.slice a2 e.kids.length c2)).heap[g]?=w2.heap[g]?:=fun g hg=>aX w2 ⟨wr.heap.size,4,none⟩ _ g (by show g≠wr.heap.size;omega)
   obtain⟨HOLD,HNEW,HLT⟩:=Ch hold hnew hlt;clear q4 n2 n3 kc hu hold hnew hlt p0 p1 p2 p3 p4;have hs3':=Nat.le_of_eq hs3.symm;clear hs3
   go_wp2_with (first
    |(generalize(w2.setCell ⟨wr.heap.size,4,none⟩ (.slice a2 e.kids.length c2))=w3 at n4 hown3 hs3' hB3 HOLD HNEW⊢;refine ldE (.tmp 5) n4 rfl ?_)
    |(at_builtin;refine wpList_append_lies _ rfl (.tmp 16) (.tmp 18) 38 rfl w.heap.size 40 i0 _ 5 64 Tryz.underlying38 hi0 hz0 hz1 hz2 rfl (by decide) (.slice av k cv) k (cx (l.take k) us) rfl (hown3.alloc _) ⟨w3.heap.size,0,none⟩ 1 1 [.int .i64 e.cls,.int .i64 e.tag,.bool e.cons,.string ⟨e.bytes.toArray⟩,.slice a2 e.kids.length c2] rfl rfl (World.news_of_block (fb _ _ _ rfl)) (by simp[Value.oneCell']) (by decide) (by unfold maxLen;omega) (by omega) (by simp;omega) (w3.heap.size+1) (by simp) ?_;intro g5 cap5 w5 ho5 hg5 hat5 hlt5))
   have hts:l.take (k+1)=l.take k++[e]:=by rw[List.take_add_one,HE.out];rfl
   have hlk:us.length=(l.take k).length:=by rw[hul,List.length_take];omega
   refine⟨⟨k+1,us++[.slice a2 e.kids.length c2],by go_num,by omega,by rw[hts,EM _ _ _ _ hlk];exact ho5,by simp[hul],(hB3.alloc (by omega) _).grown hg5 (by simp;omega) (fun b hb=>(HLT.out b hb).1),fun j e' u' q1 q2=>?_⟩,by simp[RowKit.intOf];omega⟩;have hown5:∀g',g'<w3.heap.size→(.slice av k cv:Value).ownBlock≠some g'→w5.heap[g']?=w3.heap[g']?∧(.slice (some ⟨g5,0,none⟩) (k+1) cap5:Value).ownBlock≠some g':=by
    intro g' hg' hne;refine⟨(hg5.block g' (by simp;omega) (fun h=>hne h.symm)).trans (alloc_old _ _ _ hg'),fun h=>?_⟩;rcases hat5 with h5|h5
    ·have:g5=g':=by simpa[Value.ownBlock] using h
     subst this;exact hne h5
    ·have:g5=g':=by simpa[Value.ownBlock] using h
     omega
   rw[hts] at q1
   by_cases hjk:j<k
   ·rw[List.getElem?_append_left (by rw[←hlk,hul];exact hjk)] at q1
    rw[List.getElem?_append_left (by rw[hul];exact hjk)] at q2;refine(HK.out j e' u' q1 q2).kept fun g' hg' hlt'=>?_
    obtain⟨r1,r2⟩:=hown5 g' (by omega) hg'.2;exact⟨r1.trans (HOLD.out g' hlt'),hg'.1,r2⟩
   ·have hj:j=k:=by
     have:=(List.getElem?_eq_some_iff.1 q2).1
     simp[hul] at this
     omega
    subst hj;rw[List.getElem?_append_right (by rw[←hlk,hul];exact ah _),←hlk,hul,Nat.sub_self] at q1;rw[List.getElem?_append_right (by rw[hul];exact ah _),hul,Nat.sub_self] at q2;cases q1;cases q2;refine hu2.kept fun g' hg' hlt'=>?_
    obtain⟨r1,r2⟩:=hown5 g' (by omega) (fun h=>by have:=(HLT.out g' h).2;omega);exact⟨r1.trans (HNEW.out g' hg'),by omega,r2⟩
  ·obtain rfl:k=l.length:=by omega
   rw[List.take_of_length_le (ah _)] at hown hkids;have hlt:=hown.lt;have res:=jI (P:=fun g=>w.heap.size≤g) hown hul (fun j e u q1 q2=>(hkids j e u q1 q2).mono (fun g hg _=>hg.1)) (fun g hg=>hg);have HR:=hid res;clear hown hkids res
   go_wp2_with fail
   go_ret
   exact⟨⟨_,rfl,HR.out⟩,hbe⟩
theorem i9(t:Int)(s:List UInt8)(w:World):
  Cr 33 #[.int .i64 t,.string ⟨s.toArray⟩] w (.agg (elA (.mk 0 t false s []) (.slice none 0 0))):=by
 have hb:=alb w #[I0,.int .i64 t,Bf,.string ⟨s.toArray⟩,.slice none 0 0] 40;have hr:=alz w #[I0,.int .i64 t,Bf,.string ⟨s.toArray⟩,.slice none 0 0] 40
 go_enter Tryz.func33,Tryz.ntmps33
 go_wp2_with fail
 all_goals refine aH (v:=.agg #[I0,.int .i64 t,Bf,.string ⟨s.toArray⟩,.slice none 0 0]) ?_ rfl ⟨rfl,hb⟩
 all_goals have hr:=rlE hr rfl
 all_goals simp[results,Tryz.f33]
 all_goals exact hr
theorem bz(s:List UInt8)(w:World):
  Cr 49 #[.string ⟨s.toArray⟩] w (.agg (elA (.mk 0 4 false s []) (.slice none 0 0))):=by
 have hb:=alb w Ze 40;have hr:=alz w Ze 40;have k:=i9 4 s (w.alloc (.cells Ze 40))
 go_enter Tryz.func49,Tryz.ntmps49
 go_wp2_with fail
 refine ag k ?_;rintro e w2 ⟨rfl,hb2⟩;have hr2:=bkk hb2 hr;have hb3:=btt hb hb2;clear hr hb2 hb k;unfold elA;simp only[El.cls,El.tag,El.cons,El.bytes];have hq:=setRow_heap w2 w.heap.size _ #[I0,.int .i64 4,Bf,.string ⟨s.toArray⟩,.slice none 0 0] _ _ hr2;have hb4:=xo hb3 (g:=w.heap.size) (ah _) #[I0,.int .i64 4,Bf,.string ⟨s.toArray⟩,.slice none 0 0]
 go_wp2_with (refine stE (.tmp 2) (.tmp 4) #[I0,.int .i64 4,Bf,.string ⟨s.toArray⟩,.slice none 0 0] hr2 rfl (by simp[Value.oneCell']) ?_)
 all_goals refine aH (v:=.agg #[I0,.int .i64 4,Bf,.string ⟨s.toArray⟩,.slice none 0 0]) ?_ rfl ⟨rfl,hb4⟩
 all_goals have hr:=rlE hq rfl
 all_goals simp[results,Tryz.f49]
 all_goals exact hr
theorem cH(l:List El)(v:Value)(w:World)(h:bf (fun _=>True) w v l)(hs:SmL l)(hl:l.length≤1000000000):
  Calls Tryz.prog 9 #[v] w fun e w'=>(∃u,e=.returned (.agg (elA (.mk 0 16 true [] l) u))∧bf (fun g=>w.heap.size≤g) w' u l)∧Bw w w':=by
 obtain⟨av,cv,hfv⟩:=h.shape;subst hfv;have hb:=alb w Ze 40;have hr:=alz w Ze 40;have k:=DQ (fT l) l (ah _) hs hl _ _ (h.below hb);clear h hs
 go_enter Tryz.func9,Tryz.ntmps9
 go_wp2_with fail
 refine ag k ?_;rintro e w2 ⟨⟨u2,rfl,hu2⟩,hb2⟩;obtain⟨a2,c2,hf2⟩:=hu2.shape;subst hf2;have hlt:=(gl hr);have hr2:=(hb2.block _ hlt).trans hr;have hb3:=btt hb hb2;have HU:bf (fun g=>w.heap.size≤g) (w2.setRow w.heap.size #[I0,.int .i64 16,.bool true,Es,.slice a2 l.length c2]) (.slice a2 l.length c2) l:=hu2.kept fun g hg _=>⟨setRow_other _ _ _ _ (by omega),by omega⟩
 have hq:=setRow_heap w2 w.heap.size _ #[I0,.int .i64 16,.bool true,Es,.slice a2 l.length c2] _ _ hr2;have hb4:=xo hb3 (g:=w.heap.size) (ah _) #[I0,.int .i64 16,.bool true,Es,.slice a2 l.length c2];have HH:=hid HU;clear hr hb2 hb k hu2 HU
 go_wp2_with (refine stE (.tmp 2) (.tmp 5) #[I0,.int .i64 16,.bool true,Es,.slice a2 l.length c2] hr2 rfl (by simp[Value.oneCell']) ?_)
 all_goals refine aH (v:=.agg #[I0,.int .i64 16,.bool true,Es,.slice a2 l.length c2]) ?_ rfl ⟨⟨_,rfl,HH.out⟩,hb4⟩
 all_goals have hr:=rlE hq rfl
 all_goals simp[results,Tryz.f9]
 all_goals exact hr
theorem jV(el:El)(u:Value)(c t:Int)(w:World)(h:bf (fun _=>True) w u el.kids)(hs:SmE el):
  Calls Tryz.prog 89 #[.agg (elA el u),.int .i64 c,.int .i64 t] w fun e w'=>(∃u',e=.returned (.agg (elA (.mk c t el.cons el.bytes el.kids) u'))∧bf (fun g=>w.heap.size≤g) w' u' el.kids)∧Bw w w':=by
 obtain⟨_,hl,hsl⟩:=dV hs;obtain⟨av,cv,hfv⟩:=h.shape;subst hfv;have hb:Bw w ((w.alloc (.cells (Er el av cv) 40)).alloc (.cells Ze 40)):=((aA _ _).alloc (ah _) _).alloc (by simp) _;have hr:Hc ((w.alloc (.cells (Er el av cv) 40)).alloc (.cells Ze 40)) w.heap.size (Er el av cv) 40:=(alloc_old _ _ _ (by simp)).trans (fb _ _ _ rfl);have hz:Hc ((w.alloc (.cells (Er el av cv) 40)).alloc (.cells Ze 40)) (w.heap.size+1) Ze 40:=fb _ _ _ (by simp);have k:=DQ (fT el.kids) el.kids (ah _) hsl hl _ _ (h.below hb);clear h hs hsl;unfold elA
 go_enter Tryz.func89,Tryz.ntmps89
 go_wp2_with fail
 refine ag k ?_;rintro e w2 ⟨⟨u2,rfl,hu2⟩,hb2⟩;obtain⟨a2,c2,hf2⟩:=hu2.shape;subst hf2;have hlt:=(gl hz);have hr2:=bkk hb2 hr;have hz2:=(hb2.block _ hlt).trans hz;have hb3:=btt hb hb2;have q0:=cval hr2 0 (.int .i64 el.cls);have q1:=cval hr2 1 (.int .i64 el.tag);have q4:=cval hr2 4 (.slice av el.kids.length cv);have z0:=aj hr2 0;have z1:=aj hr2 1;have z4:=aj hr2 4;have n1:(w2.setCell ⟨w.heap.size,0,none⟩ (.int .i64 c)).heap[w.heap.size]?=_:=cq (i:=0) (u:=.int .i64 c) hr2;have n2:((w2.setCell ⟨w.heap.size,0,none⟩ (.int .i64 c)).setCell ⟨w.heap.size,1,none⟩ (.int .i64 t)).heap[w.heap.size]?=_:=cq (i:=1) (u:=.int .i64 t) n1;have n3:Hc (((w2.setCell ⟨w.heap.size,0,none⟩ (.int .i64 c)).setCell ⟨w.heap.size,1,none⟩ (.int .i64 t)).setCell ⟨w.heap.size,4,none⟩ (.slice a2 el.kids.length c2)) w.heap.size #[.int .i64 c,.int .i64 t,.bool el.cons,.string ⟨el.bytes.toArray⟩,.slice a2 el.kids.length c2] 40:=cq (i:=4) (u:=.slice a2 el.kids.length c2) n2;have hoth:∀g,g≠w.heap.size→(((w2.setCell ⟨w.heap.size,0,none⟩ (.int .i64 c)).setCell ⟨w.heap.size,1,none⟩ (.int .i64 t)).setCell ⟨w.heap.size,4,none⟩ (.slice a2 el.kids.length c2)).heap[g]?=w2.heap[g]?:=fun g hg=>(aX _ ⟨w.heap.size,4,none⟩ _ g hg).trans ((aX _ ⟨w.heap.size,1,none⟩ _ g hg).trans (aX _ ⟨w.heap.size,0,none⟩ _ g hg))
 have m3:=(hoth (w.heap.size+1) (by omega)).trans hz2;have b3:Bw w (((w2.setCell ⟨w.heap.size,0,none⟩ (.int .i64 c)).setCell ⟨w.heap.size,1,none⟩ (.int .i64 t)).setCell ⟨w.heap.size,4,none⟩ (.slice a2 el.kids.length c2)):=((hb3.setCell (p:=⟨w.heap.size,0,none⟩) (ah _) _).setCell (p:=⟨w.heap.size,1,none⟩) (ah _) _).setCell (p:=⟨w.heap.size,4,none⟩) (ah _) _;have K3:bf (fun g=>w.heap.size+1<g) (((w2.setCell ⟨w.heap.size,0,none⟩ (.int .i64 c)).setCell ⟨w.heap.size,1,none⟩ (.int .i64 t)).setCell ⟨w.heap.size,4,none⟩ (.slice a2 el.kids.length c2)) (.slice a2 el.kids.length c2) el.kids:=hu2.kept fun g hg _=>⟨hoth g (by omega),by omega⟩
 obtain⟨HK,HN,HM,HB⟩:=Ci K3 n3 m3 b3;clear n1 n2 n3 hoth m3 b3 K3 hu2 hb2 hr hz hb k hb3 hz2 hr2
 go_wp2_with (first
  |(generalize((w2.setCell ⟨w.heap.size,0,none⟩ (.int .i64 c)).setCell ⟨w.heap.size,1,none⟩ (.int .i64 t)).setCell ⟨w.heap.size,4,none⟩ (.slice a2 el.kids.length c2)=w3 at HN HM HB HK⊢;refine ldE (.tmp 3) HN.out rfl ?_)
  |(refine stE (.tmp 6) (.tmp 15) #[.int .i64 c,.int .i64 t,.bool el.cons,.string ⟨el.bytes.toArray⟩,.slice a2 el.kids.length c2] HM.out rfl (by simp[Value.oneCell']) ?_))
 have hq:=setRow_heap w3 (w.heap.size+1) _ #[.int .i64 c,.int .i64 t,.bool el.cons,.string ⟨el.bytes.toArray⟩,.slice a2 el.kids.length c2] _ _ HM.out;have hb4:=xo HB.out (g:=w.heap.size+1) (by omega) #[.int .i64 c,.int .i64 t,.bool el.cons,.string ⟨el.bytes.toArray⟩,.slice a2 el.kids.length c2];have HH:bf (fun g=>w.heap.size≤g) (w3.setRow (w.heap.size+1) #[.int .i64 c,.int .i64 t,.bool el.cons,.string ⟨el.bytes.toArray⟩,.slice a2 el.kids.length c2]) (.slice a2 el.kids.length c2) el.kids:=HK.out.kept fun g hg _=>⟨setRow_other _ _ _ _ (by omega),by omega⟩
 all_goals refine aH (v:=.agg #[.int .i64 c,.int .i64 t,.bool el.cons,.string ⟨el.bytes.toArray⟩,.slice a2 el.kids.length c2]) ?_ rfl ⟨⟨_,rfl,HH⟩,hb4⟩
 all_goals have hr:=rlE hq rfl
 all_goals simp[results,Tryz.f89]
 all_goals exact hr
theorem BY(el:El)(u:Value)(t:Int)(w:World)(h:bf (fun _=>True) w u el.kids)(hs:SmE el):
  Calls Tryz.prog 51 #[.int .i64 t,.agg (elA el u)] w fun e w'=>(∃u',e=.returned (.agg (elA (.mk 2 t el.cons el.bytes el.kids) u'))∧bf (fun g=>w.heap.size≤g) w' u' el.kids)∧Bw w w':=by
 have hb:Bw w ((w.alloc (.cells (elA el u) 40)).alloc (.cells Ze 40)):=((aA _ _).alloc (ah _) _).alloc (by simp) _;have hr:Hc ((w.alloc (.cells (elA el u) 40)).alloc (.cells Ze 40)) w.heap.size (elA el u) 40:=(alloc_old _ _ _ (by simp)).trans (fb _ _ _ rfl);have hz:Hc ((w.alloc (.cells (elA el u) 40)).alloc (.cells Ze 40)) (w.heap.size+1) Ze 40:=fb _ _ _ (by simp);have k:=jV el u 2 t _ (h.below hb) hs;clear h hs
 go_enter Tryz.func51,Tryz.ntmps51
 go_wp2_with (refine ldE (.tmp 3) hr rfl ?_)
 refine ag k ?_;rintro e w2 ⟨⟨u2,rfl,hu2⟩,hb2⟩;obtain⟨a2,c2,hf2⟩:=hu2.shape;subst hf2;have hz2:=bkk hb2 hz;have hb3:=btt hb hb2;have hq:=setRow_heap w2 (w.heap.size+1) _ (elA (.mk 2 t el.cons el.bytes el.kids) (.slice a2 el.kids.length c2)) _ _ hz2;have hb4:=xo hb3 (g:=w.heap.size+1) (by omega) (elA (.mk 2 t el.cons el.bytes el.kids) (.slice a2 el.kids.length c2));have hlt:=(gl hz);have HH:bf (fun g=>w.heap.size≤g) (w2.setRow (w.heap.size+1) (elA (.mk 2 t el.cons el.bytes el.kids) (.slice a2 el.kids.length c2))) (.slice a2 el.kids.length c2) el.kids:=hu2.kept fun g hg _=>⟨setRow_other _ _ _ _ (by omega),by omega⟩
 have HI:=hid HH;clear hb k hu2 hb2 hr hz hb3 HH
 go_wp2_with (refine stE (.tmp 4) (.tmp 7) (elA (.mk 2 t el.cons el.bytes el.kids) (.slice a2 el.kids.length c2)) hz2 rfl (by simp[elA,Value.oneCell']) ?_)
 all_goals refine aH (v:=.agg (elA (.mk 2 t el.cons el.bytes el.kids) (.slice a2 el.kids.length c2))) ?_ rfl ⟨⟨_,rfl,HI.out⟩,hb4⟩
 all_goals have hr:=rlE hq rfl
 all_goals simp[results,Tryz.f51]
 all_goals exact hr
theorem mc(p:El→Bool)(d:Nat)(el:El):eT p d el=if 20≤d then true else p el&&dS p (d+1) el.kids:=by
 cases el;simp only[eT,El.kids]
theorem ro(d:Nat)(el:El):eW d el=if 20≤d then true else eX (d+1) el.kids:=by
 cases el;simp only[eW,El.kids]
theorem iA{α:Type}{l:List α}{k:Nat}{e:α}(h:l[k]?=some e):l.drop k=e::l.drop (k+1):=by
 obtain⟨hk,he⟩:=List.getElem?_eq_some_iff.1 h;rw[List.drop_eq_getElem_cons hk,he]
theorem Af(el:El)(u:Value)(w:World)(h:bf (fun _=>True) w u el.kids):
  Cr 26 #[.agg (elA el u)] w (.bool (cn el)):=by
 obtain⟨a,c,hf⟩:=h.shape;clear h;obtain⟨cl,t,k,b,ks⟩:=el;simp only[El.kids] at hf;subst hf;unfold elA;simp only[El.cls,El.tag,El.cons,El.bytes];have hb:=alb w #[.int .i64 cl,.int .i64 t,.bool k,.string ⟨b.toArray⟩,.slice a ks.length c] 40
 by_cases h1:0≤cl
 ·have g1:decide (0≤cl)=true:=aC h1
  by_cases h2:cl≤3
  ·have g2:decide (cl≤3)=true:=aC h2
   by_cases h3:0≤t
   ·have g3:decide (0≤t)=true:=aC h3
    by_cases h4:t≤30
    ·have g4:decide (t≤30)=true:=aC h4
     have hr:cn (.mk cl t k b ks)=true:=by simp[cn,h1,h2,h3,h4]
     rw[hr]
     go_enter Tryz.func26,Tryz.ntmps26
     go_wp2_with fail
     go_ret
     exact⟨rfl,hb⟩
    ·have g4:decide (t≤30)=false:=an h4
     have hr:cn (.mk cl t k b ks)=false:=by simp[cn,h4]
     rw[hr]
     go_enter Tryz.func26,Tryz.ntmps26
     go_wp2_with fail
     go_ret
     exact⟨rfl,hb⟩
   ·have g3:decide (0≤t)=false:=an h3
    have hr:cn (.mk cl t k b ks)=false:=by simp[cn,h3]
    rw[hr]
    go_enter Tryz.func26,Tryz.ntmps26
    go_wp2_with fail
    go_ret
    exact⟨rfl,hb⟩
  ·have g2:decide (cl≤3)=false:=an h2
   have hr:cn (.mk cl t k b ks)=false:=by simp[cn,h2]
   rw[hr]
   go_enter Tryz.func26,Tryz.ntmps26
   go_wp2_with fail
   go_ret
   exact⟨rfl,hb⟩
 ·have g1:decide (0≤cl)=false:=an h1
  have hr:cn (.mk cl t k b ks)=false:=by simp[cn,h1]
  rw[hr]
  go_enter Tryz.func26,Tryz.ntmps26
  go_wp2_with fail
  go_ret
  exact⟨rfl,hb⟩
theorem nb(el:El)(u:Value)(w:World)(h:bf (fun _=>True) w u el.kids):
  Cr 27 #[.agg (elA el u)] w (.bool (dw el)):=by
 obtain⟨a,c,hf⟩:=h.shape;clear h;obtain⟨cl,t,k,b,ks⟩:=el;simp only[El.kids] at hf;subst hf;unfold elA;simp only[El.cls,El.tag,El.cons,El.bytes];have hb:=alb w #[.int .i64 cl,.int .i64 t,.bool k,.string ⟨b.toArray⟩,.slice a ks.length c] 40;cases k with
 |true=>
  cases b with
  |nil=>
   have hr:dw (.mk cl t true [] ks)=true:=by simp[dw]
   rw[hr]
   go_enter Tryz.func27,Tryz.ntmps27
   go_wp2_with fail
   go_ret
   exact⟨rfl,hb⟩
  |cons x b=>
   have hr:dw (.mk cl t true (x::b) ks)=false:=by simp[dw]
   rw[hr]
   go_enter Tryz.func27,Tryz.ntmps27
   go_wp2_with fail
   go_ret
   exact⟨rfl,hb⟩
 |false=>
  cases ks with
  |nil=>
   have hr:dw (.mk cl t false b [])=true:=by simp[dw]
   rw[hr]
   go_enter Tryz.func27,Tryz.ntmps27
   go_wp2_with fail
   go_ret
   exact⟨rfl,hb⟩
  |cons x ks=>
   have hr:dw (.mk cl t false b (x::ks))=false:=by simp[dw]
   rw[hr];obtain⟨m,hm⟩:=nmm ((x::ks).length);have hm0:((m:Int)==0)=false:=by
    have h0:m≠0:=by rw[←hm];simp
    simpa using h0
   rw[hm];rw[hm] at hb
   go_enter Tryz.func27,Tryz.ntmps27
   go_wp2_with fail
   go_ret
   exact⟨rfl,hb⟩
theorem zC(n:Nat):∀(el:El),ex el≤n→SmE el→∀(d:Nat),d≤20→∀(u:Value) (w:World),bf (fun _=>True) w u el.kids→
  Cr 25 #[.agg (elA el u),.int .i64 (d:Int),.func (.func 26) #[] #[]] w (.bool (eT cn d el)):=by
 induction n with
 |zero=>intro el hd;rw[eu] at hd;omega
 |succ n ih=>
 intro el hd hs d hd20 u w h;obtain⟨a,c,hf⟩:=h.shape;subst hf;obtain⟨sb,sl,sk⟩:=dV hs;have b1:=alb w (Er el a c) 40;have r1:=alz w (Er el a c) 40;have ky:=Af el _ _ (h.below b1);obtain⟨H,IH,HS,HD⟩:=Ci (h.below b1) ih sk hd;clear h ih sk hd hs;rw[mc]
 by_cases h20:20≤d
 ·have g1:decide ((20:Int)≤(d:Int))=true:=aC (by omega)
  rw[if_pos h20];unfold elA
  go_enter Tryz.func25,Tryz.ntmps25
  go_wp2_with fail
  go_ret
  exact⟨rfl,b1⟩
 ·have g1:decide ((20:Int)≤(d:Int))=false:=an (by omega)
  rw[if_neg h20];obtain⟨ANS,hA⟩:=nmm (cn el&&dS cn (d+1) el.kids);rw[hA];have HA0:=hid hA;clear hA;unfold elA at ky⊢
  go_enter Tryz.func25,Tryz.ntmps25
  refine wp_seq ?_;refine aQ ?_;refine aB rfl (kkn ?_);generalize w.alloc (.cells (Er el a c) 40)=w1 at b1 r1 ky H⊢
  go_wp2_with (refine ldE (.tmp 3) r1 rfl ?_)
  refine ag ky ?_;rintro e2 w2 ⟨rfl,hb2⟩;have r2:=bkk hb2 r1;have b2:=btt b1 hb2;have H2:=hid (H.out.below hb2);clear b1 r1 ky H hb2;obtain⟨BP,hp⟩:=nmm (cn el);cases BP with
  |false=>
   have e:ANS=false:=by rw[←HA0.out,hp];rfl
   subst e;rw[hp]
   go_wp2_with fail
   go_ret
   exact⟨rfl,b2⟩
  |true=>
   have hA:dS cn (d+1) el.kids=ANS:=by have:=HA0.out;rw[hp,Bool.true_and] at this;exact this
   have HA:=hid hA;rw[hp];clear hA hp HA0;have q4:=cval r2 4 (.slice a el.kids.length c);clear r2
   go_wp2_with fail
   go_loopw [18] (fun i wr=>∃k:Nat,i=.int .i64 (k:Int)∧k≤el.kids.length∧Bw w2 wr∧dS cn (d+1) (el.kids.drop k)=ANS) (fun i _=>el.kids.length -(RowKit.intOf i).toNat)
   case atStart=>exact⟨0,rfl,Nat.zero_le _,aA _ _,HA.out⟩
   case round=>
    clear q4;obtain⟨k,rfl,hk,hbe,hans⟩:=hrel
    by_cases hkl:k<el.kids.length
    ·obtain⟨e,he⟩:∃e,el.kids[k]?=some e:=⟨el.kids[k],aM hkl⟩
     obtain⟨a',cap',e',_,hsrc⟩:=H2.out.below hbe;cases e';obtain⟨g,o,ha,_,hcells⟩:=hsrc (by intro h0;rw[h0] at hkl;simp at hkl);subst ha;obtain⟨p0,p1,p2,p3,u,p4,hu⟩:=(cE.get el.kids g o k e hcells he).cells;obtain⟨au,cu,hfu⟩:=hu.shape;subst hfu;have hdep:ex e≤n:=by have h1:=eK el.kids k e he;have h2:=eu el;have:=HD.out;omega
     rw[iA he] at hans;simp only[dS] at hans;have i1:(k:Int)<(el.kids.length:Int):=by omega
     have i3:decide ((k:Int)<(el.kids.length:Int))=true:=aC i1;have m1:=alb wr (Er e au cu) 40;have kr:=IH.out e hdep (eV el.kids k e HS.out he) (d+1) (by omega) _ _ (hu.below m1);have b4:=btt hbe m1;have hsz:=hbe.size;have hsm:=m1.size;have HB4:=hid b4;have hdc:((d+1:Nat):Int)=(d:Int)+1:=by omega
     rw[hdc] at kr;clear hdc;clear hsrc hcells he hu b4 m1;cases hv:eT cn (d+1) e with
     |false=>
      rw[hv] at kr hans;rw[Bool.false_and] at hans;subst hans;unfold elA at kr
      go_wp2_with (refine ldE (.tmp 8) (fb _ _ _ rfl) rfl ?_)
      refine ag kr ?_;rintro e5 w5 ⟨rfl,hb5⟩
      go_wp2_with fail
      go_ret
      exact⟨rfl,b2.trans ((HB4.out.trans (hb5.mono (by omega))).mono b2.size)⟩
     |true=>
      rw[hv] at kr hans;rw[Bool.true_and] at hans;unfold elA at kr;have HANS:=hid hans;clear hans
      go_wp2_with (refine ldE (.tmp 8) (fb _ _ _ rfl) rfl ?_)
      refine ag kr ?_;rintro e5 w5 ⟨rfl,hb5⟩;have HB5:=hid (HB4.out.trans (hb5.mono (by omega)));clear hb5 kr
      go_wp2_with fail
      exact⟨⟨k+1,by go_num,by omega,HB5.out,HANS.out⟩,by simp[RowKit.intOf];omega⟩
    ·obtain rfl:k=el.kids.length:=by omega
     rw[List.drop_of_length_le (ah _)] at hans;simp only[dS] at hans;subst hans;have i3:decide ((el.kids.length:Int)<(el.kids.length:Int))=false:=an (by omega)
     go_wp2_with fail
     go_ret
     exact⟨rfl,(btt b2 hbe)⟩
theorem me(n:Nat):∀(el:El),ex el≤n→SmE el→∀(d:Nat),d≤20→∀(u:Value) (w:World),bf (fun _=>True) w u el.kids→
  Cr 25 #[.agg (elA el u),.int .i64 (d:Int),.func (.func 27) #[] #[]] w (.bool (eT dw d el)):=by
 induction n with
 |zero=>intro el hd;rw[eu] at hd;omega
 |succ n ih=>
 intro el hd hs d hd20 u w h;obtain⟨a,c,hf⟩:=h.shape;subst hf;obtain⟨sb,sl,sk⟩:=dV hs;have b1:=alb w (Er el a c) 40;have r1:=alz w (Er el a c) 40;have ky:=nb el _ _ (h.below b1);obtain⟨H,IH,HS,HD⟩:=Ci (h.below b1) ih sk hd;clear h ih sk hd hs;rw[mc]
 by_cases h20:20≤d
 ·have g1:decide ((20:Int)≤(d:Int))=true:=aC (by omega)
  rw[if_pos h20];unfold elA
  go_enter Tryz.func25,Tryz.ntmps25
  go_wp2_with fail
  go_ret
  exact⟨rfl,b1⟩
 ·have g1:decide ((20:Int)≤(d:Int))=false:=an (by omega)
  rw[if_neg h20];obtain⟨ANS,hA⟩:=nmm (dw el&&dS dw (d+1) el.kids);rw[hA];have HA0:=hid hA;clear hA;unfold elA at ky⊢
  go_enter Tryz.func25,Tryz.ntmps25
  refine wp_seq ?_;refine aQ ?_;refine aB rfl (kkn ?_);generalize w.alloc (.cells (Er el a c) 40)=w1 at b1 r1 ky H⊢
  go_wp2_with (refine ldE (.tmp 3) r1 rfl ?_)
  refine ag ky ?_;rintro e2 w2 ⟨rfl,hb2⟩;have r2:=bkk hb2 r1;have b2:=btt b1 hb2;have H2:=hid (H.out.below hb2);clear b1 r1 ky H hb2;obtain⟨BP,hp⟩:=nmm (dw el);cases BP with
  |false=>
   have e:ANS=false:=by rw[←HA0.out,hp];rfl
   subst e;rw[hp]
   go_wp2_with fail
   go_ret
   exact⟨rfl,b2⟩
  |true=>
   have hA:dS dw (d+1) el.kids=ANS:=by have:=HA0.out;rw[hp,Bool.true_and] at this;exact this
   have HA:=hid hA;rw[hp];clear hA hp HA0;have q4:=cval r2 4 (.slice a el.kids.length c);clear r2
   go_wp2_with fail
   go_loopw [18] (fun i wr=>∃k:Nat,i=.int .i64 (k:Int)∧k≤el.kids.length∧Bw w2 wr∧dS dw (d+1) (el.kids.drop k)=ANS) (fun i _=>el.kids.length -(RowKit.intOf i).toNat)
   case atStart=>exact⟨0,rfl,Nat.zero_le _,aA _ _,HA.out⟩
   case round=>
    clear q4;obtain⟨k,rfl,hk,hbe,hans⟩:=hrel
    by_cases hkl:k<el.kids.length
    ·obtain⟨e,he⟩:∃e,el.kids[k]?=some e:=⟨el.kids[k],aM hkl⟩
     obtain⟨a',cap',e',_,hsrc⟩:=H2.out.below hbe;cases e';obtain⟨g,o,ha,_,hcells⟩:=hsrc (by intro h0;rw[h0] at hkl;simp at hkl);subst ha;obtain⟨p0,p1,p2,p3,u,p4,hu⟩:=(cE.get el.kids g o k e hcells he).cells;obtain⟨au,cu,hfu⟩:=hu.shape;subst hfu;have hdep:ex e≤n:=by have h1:=eK el.kids k e he;have h2:=eu el;have:=HD.out;omega
     rw[iA he] at hans;simp only[dS] at hans;have i1:(k:Int)<(el.kids.length:Int):=by omega
     have i3:decide ((k:Int)<(el.kids.length:Int))=true:=aC i1;have m1:=alb wr (Er e au cu) 40;have kr:=IH.out e hdep (eV el.kids k e HS.out he) (d+1) (by omega) _ _ (hu.below m1);have b4:=btt hbe m1;have hsz:=hbe.size;have hsm:=m1.size;have HB4:=hid b4;have hdc:((d+1:Nat):Int)=(d:Int)+1:=by omega
     rw[hdc] at kr;clear hdc;clear hsrc hcells he hu b4 m1;cases hv:eT dw (d+1) e with
     |false=>
      rw[hv] at kr hans;rw[Bool.false_and] at hans;subst hans;unfold elA at kr
      go_wp2_with (refine ldE (.tmp 8) (fb _ _ _ rfl) rfl ?_)
      refine ag kr ?_;rintro e5 w5 ⟨rfl,hb5⟩
      go_wp2_with fail
      go_ret
      exact⟨rfl,b2.trans ((HB4.out.trans (hb5.mono (by omega))).mono b2.size)⟩
     |true=>
      rw[hv] at kr hans;rw[Bool.true_and] at hans;unfold elA at kr;have HANS:=hid hans;clear hans
      go_wp2_with (refine ldE (.tmp 8) (fb _ _ _ rfl) rfl ?_)
      refine ag kr ?_;rintro e5 w5 ⟨rfl,hb5⟩;have HB5:=hid (HB4.out.trans (hb5.mono (by omega)));clear hb5 kr
      go_wp2_with fail
      exact⟨⟨k+1,by go_num,by omega,HB5.out,HANS.out⟩,by simp[RowKit.intOf];omega⟩
    ·obtain rfl:k=el.kids.length:=by omega
     rw[List.drop_of_length_le (ah _)] at hans;simp only[dS] at hans;subst hans;have i3:decide ((el.kids.length:Int)<(el.kids.length:Int))=false:=an (by omega)
     go_wp2_with fail
     go_ret
     exact⟨rfl,(btt b2 hbe)⟩
theorem CX(n:Nat):∀(el:El),ex el≤n→SmE el→∀(d:Nat),d≤20→∀(u:Value) (w:World),bf (fun _=>True) w u el.kids→
  Cr 28 #[.agg (elA el u),.int .i64 (d:Int)] w (.bool (eW d el)):=by
 induction n with
 |zero=>intro el hd;rw[eu] at hd;omega
 |succ n ih=>
 intro el hd hs d hd20 u w h;obtain⟨a,c,hf⟩:=h.shape;subst hf;obtain⟨sb,sl,sk⟩:=dV hs;have b1:=alb w (Er el a c) 40;have r1:=alz w (Er el a c) 40;obtain⟨H,IH,HS,HD⟩:=Ci (h.below b1) ih sk hd;clear h ih sk hd hs;rw[ro]
 by_cases h20:20≤d
 ·have g1:decide ((20:Int)≤(d:Int))=true:=aC (by omega)
  rw[if_pos h20];unfold elA
  go_enter Tryz.func28,Tryz.ntmps28
  go_wp2_with fail
  go_ret
  exact⟨rfl,b1⟩
 ·have g1:decide ((20:Int)≤(d:Int))=false:=an (by omega)
  rw[if_neg h20];obtain⟨ANS,hA⟩:=nmm (eX (d+1) el.kids);rw[hA];have HA:=hid hA;clear hA;unfold elA
  go_enter Tryz.func28,Tryz.ntmps28
  refine wp_seq ?_;refine aQ ?_;refine aB rfl (kkn ?_);generalize w.alloc (.cells (Er el a c) 40)=w2 at b1 r1 H⊢;have q4:=cval r1 4 (.slice a el.kids.length c);clear r1
  go_wp2_with fail
  go_loopw [12] (fun i wr=>∃k:Nat,i=.int .i64 (k:Int)∧k≤el.kids.length∧Bw w2 wr∧eX (d+1) (el.kids.drop k)=ANS) (fun i _=>el.kids.length -(RowKit.intOf i).toNat)
  case atStart=>exact⟨0,rfl,Nat.zero_le _,aA _ _,HA.out⟩
  case round=>
   clear q4;obtain⟨k,rfl,hk,hbe,hans⟩:=hrel
   by_cases hkl:k<el.kids.length
   ·obtain⟨e,he⟩:∃e,el.kids[k]?=some e:=⟨el.kids[k],aM hkl⟩
    obtain⟨a',cap',e',_,hsrc⟩:=H.out.below hbe;cases e';obtain⟨g,o,ha,_,hcells⟩:=hsrc (by intro h0;rw[h0] at hkl;simp at hkl);subst ha;obtain⟨p0,p1,p2,p3,u,p4,hu⟩:=(cE.get el.kids g o k e hcells he).cells;obtain⟨au,cu,hfu⟩:=hu.shape;subst hfu;have hdep:ex e≤n:=by have h1:=eK el.kids k e he;have h2:=eu el;have:=HD.out;omega
    rw[iA he] at hans;simp only[eX] at hans;have i1:(k:Int)<(el.kids.length:Int):=by omega
    have i3:decide ((k:Int)<(el.kids.length:Int))=true:=aC i1;have m1:=alb wr (Er e au cu) 40;have kr:=IH.out e hdep (eV el.kids k e HS.out he) (d+1) (by omega) _ _ (hu.below m1);have hsz:=hbe.size;have hsm:=m1.size;have HB4:=hid ((btt hbe m1));have hdc:((d+1:Nat):Int)=(d:Int)+1:=by omega
    rw[hdc] at kr;clear hdc;clear hsrc hcells he hu m1;cases hv:eW (d+1) e with
    |true=>
     rw[hv] at kr hans;rw[Bool.true_or] at hans;subst hans;unfold elA at kr
     go_wp2_with (refine ldE (.tmp 6) (fb _ _ _ rfl) rfl ?_)
     refine ag kr ?_;rintro e5 w5 ⟨rfl,hb5⟩
     go_wp2_with fail
     go_ret
     exact⟨rfl,b1.trans ((HB4.out.trans (hb5.mono (by omega))).mono b1.size)⟩
    |false=>
     rw[hv] at kr hans;rw[Bool.false_or] at hans;unfold elA at kr;have HANS:=hid hans;clear hans
     go_wp2_with (refine ldE (.tmp 6) (fb _ _ _ rfl) rfl ?_)
     refine ag kr ?_;rintro e5 w5 ⟨rfl,hb5⟩;have HB5:=hid (HB4.out.trans (hb5.mono (by omega)));clear hb5 kr
     go_wp2_with fail
     exact⟨⟨k+1,by go_num,by omega,HB5.out,HANS.out⟩,by simp[RowKit.intOf];omega⟩
   ·obtain rfl:k=el.kids.length:=by omega
    rw[List.drop_of_length_le (ah _)] at hans;simp only[eX] at hans;subst hans;have i3:decide ((el.kids.length:Int)<(el.kids.length:Int))=false:=an (by omega)
    go_wp2_with fail
    go_ret
    exact⟨rfl,(btt b1 hbe)⟩
def jw(N:Nat):Prop:=∀n,n≤N→∀w:World,Calls Tryz.prog 53 #[.int .i64 (n:Int)] w fun e w'=>e=.returned (.string ⟨(cV n).toArray⟩)∧Bw w w'
theorem iw(el:El):bK el=min (1+(cV (min (cw el.bytes.length el.kids) 65537)).length+cw el.bytes.length el.kids) 65537:=by
 cases el;simp only[bK,El.bytes,El.kids]
theorem fV(el:El):bK el≤65537:=by rw[iw];omega
theorem jJ:∀(l:List El) (n:Nat),min n 65537≤cw n l
 |[],n=>by simp only[cw];omega
 |e::r,n=>by
  simp only[cw];have:=jJ r (min (n+bK e) 65537)
  omega
theorem gP:∀(l:List El) (n j:Nat) (e:El),l[j]?=some e→bK e≤cw n l
 |[],_,_,_,h=>by simp at h
 |x::r,n,0,e,h=>by
  simp at h;subst h
  simp only[cw];have h1:=jJ r (min (n+bK x) 65537);have h2:=fV x
  omega
 |x::r,n,j+1,e,h=>by
  simp only[cw];exact gP r _ j e (by simpa using h)
theorem jW(n:Nat):1≤(cV n).length∧(cV n).length≤4:=by
 unfold cV
 split
 ·simp
 ·split
  ·simp
  ·split<;>simp
theorem ix(el:El):min (cw el.bytes.length el.kids) 65537≤bK el:=by
 rw[iw];omega
theorem jK(N:Nat)(hN:jw N)(n:Nat):∀(el:El),ex el≤n→SmE el→bK el≤N→∀(u:Value) (w:World),bf (fun _=>True) w u el.kids→
  Cr 29 #[.agg (elA el u)] w (.int .i64 (bK el:Int)):=by
 induction n with
 |zero=>intro el hd;rw[eu] at hd;omega
 |succ n ih=>
 intro el hd hs hz u w h;obtain⟨a,c,hf⟩:=h.shape;subst hf;obtain⟨sb,sl,sk⟩:=dV hs;have b1:=alb w (Er el a c) 40;have r1:=alz w (Er el a c) 40;obtain⟨H,IH,HS,HD,HN⟩:=Cj (h.below b1) ih sk hd hN;have hzk:=ix el;have HKS:=hid (fun(j:Nat) (e:El) (he:el.kids[j]?=some e)=>(show bK e≤N from by
  have h1:=gP el.kids el.bytes.length j e he;have h2:=fV e
  omega))
 clear h ih sk hd hs;obtain⟨ANS,hA⟩:=nmm (cw el.bytes.length el.kids);have hres:bK el=min (1+(cV (min ANS 65537)).length+ANS) 65537:=by rw[iw,hA]
 rw[hA] at hzk;have klen:=HN.out (min ANS 65537) (by omega);obtain⟨L,hL⟩:=nmm (cV (min ANS 65537));have hL4:=jW (min ANS 65537);rw[hL] at hres klen hL4;generalize hR:bK el=R;rw[hR] at hres;obtain⟨HA,HRES⟩:=Cg hA hres;clear hA hL hres hR hz hzk;unfold elA
 go_enter Tryz.func29,Tryz.ntmps29
 refine wp_seq ?_;refine aQ ?_;refine aB rfl (kkn ?_);generalize w.alloc (.cells (Er el a c) 40)=w2 at b1 r1 H⊢;have q4:=cval r1 4 (.slice a el.kids.length c);have q3:=cval r1 3 (.string ⟨el.bytes.toArray⟩);clear r1
 go_wp2_with fail
 go_loopw [3,12] (fun v i wr=>∃k m:Nat,i=.int .i64 (k:Int)∧v=.int .i64 (m:Int)∧m≤1000000000∧k≤el.kids.length∧Bw w2 wr∧cw m (el.kids.drop k)=ANS) (fun _ i _=>el.kids.length -(RowKit.intOf i).toNat)
 case atStart=>exact⟨0,el.bytes.length,rfl,rfl,sb,Nat.zero_le _,aA _ _,HA.out⟩
 case round=>
  clear q4 q3;obtain⟨k,m,rfl,rfl,hm,hk,hbe,hans⟩:=hrel
  by_cases hkl:k<el.kids.length
  ·obtain⟨e,he⟩:∃e,el.kids[k]?=some e:=⟨el.kids[k],aM hkl⟩
   obtain⟨a',cap',e',_,hsrc⟩:=H.out.below hbe;cases e';obtain⟨g,o,ha,_,hcells⟩:=hsrc (by intro h0;rw[h0] at hkl;simp at hkl);subst ha;obtain⟨p0,p1,p2,p3,u,p4,hu⟩:=(cE.get el.kids g o k e hcells he).cells;obtain⟨au,cu,hfu⟩:=hu.shape;subst hfu;have hdep:ex e≤n:=by have h1:=eK el.kids k e he;have h2:=eu el;have:=HD.out;omega
   rw[iA he] at hans;simp only[cw] at hans;have i1:(k:Int)<(el.kids.length:Int):=by omega
   have i3:decide ((k:Int)<(el.kids.length:Int))=true:=aC i1;have m1:=alb wr (Er e au cu) 40;have kr:=IH.out e hdep (eV el.kids k e HS.out he) (HKS.out k e he) _ _ (hu.below m1);have hsz:=hbe.size;have hsm:=m1.size;have HB4:=hid ((btt hbe m1));have hse:=fV e;obtain⟨z,hzz⟩:=nmm (bK e);rw[hzz] at kr hans hse;have HANS:=hid hans;have hw1:IntKind.i64.wrap ((m:Int)+(z:Int))=(m:Int)+(z:Int):=by rw[aK];omega
   clear hsrc hcells he hu m1 hzz hans;unfold elA at kr
   go_wp2_with (refine ldE (.tmp 5) (fb _ _ _ rfl) rfl ?_)
   refine ag kr ?_;rintro e5 w5 ⟨rfl,hb5⟩;have HB5:=hid (HB4.out.trans (hb5.mono (by omega)));clear hb5 kr
   go_wp2_with fail
   exact⟨⟨k+1,min (m+z) 65537,by go_num,by rw[show(min ((m:Int)+(z:Int)) 65537)=((min (m+z) 65537:Nat):Int) by omega],by omega,by omega,HB5.out,HANS.out⟩,by simp[RowKit.intOf];omega⟩
  ·obtain rfl:k=el.kids.length:=by omega
   rw[List.drop_of_length_le (ah _)] at hans;simp only[cw] at hans;subst hans;have hmin:((min m 65537:Nat):Int)=min (m:Int) 65537:=by omega
   rw[hmin] at klen;clear hmin;have kl:=klen wr;clear klen;have i3:decide ((el.kids.length:Int)<(el.kids.length:Int))=false:=an (by omega)
   go_wp2_with fail
   refine ag kl ?_;rintro e5 w5 ⟨rfl,hb5⟩;obtain⟨q,hq⟩:=nmm L.length;have hres:=HRES.out;rw[hq] at hL4 hres;have hw1:IntKind.i64.wrap (1+(q:Int))=1+(q:Int):=by rw[aK];omega
   have hw2:IntKind.i64.wrap (1+(q:Int)+(m:Int))=1+(q:Int)+(m:Int):=by rw[aK];omega
   have hfin:(min (1+(q:Int)+(m:Int)) 65537)=(R:Int):=by omega
   have HF:=hid hfin;have b5:=b1.trans (((btt hbe hb5)).mono b1.size);clear hres hfin kl hb5
   go_wp2_with fail
   go_ret
   exact⟨by rw[HF.out];rfl,b5⟩
theorem Tryz.wBuilder:(Tryz.prog.info? 60).map (fun i=>decide (i.size≠0))=some true:=by kernel_rfl
theorem Tryz.wLies:liesAt Tryz.prog Tryz.prog.depth 60 (2/Tryz.prog.cellsOf 60) 0 60 1=true:=by kernel_rfl
theorem Tryz.infoByte:(Tryz.prog.info? 5).map (fun i=>(i.zero,i.size,i.bytes))=some (some (.int .u8 0),1,1):=by kernel_rfl
theorem Tryz.cellsByte:Tryz.prog.cellsOf 5=1:=by kernel_rfl
theorem tG(b:Nat)(w:World)(h0:w.cell? ⟨b,0,none⟩=some (.pointer (some ⟨b,0,none⟩))):
  Calls Tryz.prog 92 #[.pointer (some ⟨b,0,none⟩)] w fun e w'=>e=.returned (.tuple #[])∧w'=w:=by
 obtain⟨j,hj,_⟩:=aV.1 Tryz.wBuilder
 go_enter Tryz.func92,Tryz.ntmps92
 go_wp2
 rw[Lib.run_neq_ptr_same w _ Tryz.underlying57 hj]
 go_wp2
 go_end0
 exact⟨rfl,rfl⟩
theorem sM(b:Nat)(w:World)(h0:w.cell? ⟨b,0,none⟩=some (.pointer none))(hsh:w.shape? b=some (60,2))(hfz:w.frozen? ⟨b,0,none⟩=false):
  Calls Tryz.prog 92 #[.pointer (some ⟨b,0,none⟩)] w fun e w'=>e=.returned (.tuple #[])∧w'=w.setCell ⟨b,0,none⟩ (.pointer (some ⟨b,0,none⟩)):=by
 obtain⟨j,hj,hjs⟩:=aV.1 Tryz.wBuilder;have hjs2:=of_decide_eq_true hjs;have r1:=Lib.run_to_unsafe (P:=Tryz.prog) w ⟨b,0,none⟩ Tryz.underlying57 Tryz.underlying153 hj hjs2 hsh (Nat.zero_lt_succ 1);have r2:=Lib.run_from_unsafe (P:=Tryz.prog) w ⟨b,0,none⟩ Tryz.underlying153 Tryz.underlying57 hj hsh Tryz.wLies;clear hjs hjs2
 go_enter Tryz.func92,Tryz.ntmps92
 go_wp2
 rw[run_callFunc_extern Tryz.func111 (by kernel_rfl) (by kernel_rfl) (by kernel_rfl) (e:=Extern.AbiNoEscape.same) (by kernel_rfl)];rw[Lib.run_noEscape];simp only[Result.andThen];rw[Oper.upon_value]
 go_wp2
 go_end0
 exact⟨rfl,rfl⟩
def WAt(B b:Nat)(p:Value)(l:List UInt8)(w:World):Prop:=Lib.BuilderAt 60 5 B b p (bV l) w
def IsW(B b:Nat)(l:List UInt8)(w:World):Prop:=Lib.IsBuilder 60 5 B b (bV l) w
def dE(b:Nat)(w w':World):Prop:=w.heap.size≤w'.heap.size∧∀(j:Nat) (cs:Array Value) (t:TypeId) (fz:Nat×Nat),w.heap[j]?=some (.cells cs t fz)→j≠b→t≠5→w'.heap[j]?=some (.cells cs t fz)
theorem dE.refl(b:Nat)(w:World):dE b w w:=⟨ah _,fun _ _ _ _ h _ _=>h⟩
theorem dE.trans{b:Nat}{x y z:World}(h:dE b x y)(k:dE b y z):dE b x z:=⟨Nat.le_trans h.1 k.1,fun j cs t fz hj hne ht=>k.2 j cs t fz (h.2 j cs t fz hj hne ht) hne ht⟩
theorem dE.of_below{b:Nat}{w w':World}(h:Bw w w'):dE b w w':=⟨h.size,fun j _ _ _ hj _ _=>(h.block j (gl hj)).trans hj⟩
theorem dE.set{b:Nat}{x w:World}(h:dE b x w)(i:Nat)(v:Value):dE b x (w.setCell ⟨b,i,none⟩ v):=
 ⟨by simpa using h.1,fun j cs t fz hj hne ht=>(heap_setCell_other w ⟨b,i,none⟩ j v hne).trans (h.2 j cs t fz hj hne ht)⟩
theorem dE.alloc{b:Nat}{x w:World}(h:dE b x w)(o:Obj):dE b x (w.alloc o):=h.trans (dE.of_below ((aA _ _).alloc (ah _) o))
theorem dE.grown{b B n:Nat}{x w w':World}{v:Value}{xs:List Value}(h:dE b x w)(ho:w.ownsRow B 5 1 v n xs)(hg:w.grownBy w' v.ownBlock):dE b x w':=by
 refine⟨Nat.le_trans h.1 hg.size,fun j cs t fz hj hne ht=>?_⟩;have h1:=h.2 j cs t fz hj hne ht;rw[hg.block j (gl h1) ?_]
 ·exact h1
 ·intro e
  rcases ho.2 with⟨hv,_⟩|⟨g,cap,cur,hv,_,hh,_⟩
  ·rw[hv] at e;cases e
  ·rw[hv] at e
   have e2:j=g:=aD e;subst e2;rw[hh] at h1;cases h1;exact ht rfl
theorem jD(B b:Nat)(l:List UInt8)(w:World)(h:IsW B b l w):
  Calls Tryz.prog 92 #[.pointer (some ⟨b,0,none⟩)] w fun e w'=>e=.returned (.tuple #[])∧(WAt B b (.pointer (some ⟨b,0,none⟩)) l w'∧Below B w w'∧dE b w w'):=by
 rcases h with h|h
 ·refine(sM b w h.cell0 h.shape h.frozen0).mono ?_
  rintro e w' ⟨rfl,rfl⟩;exact⟨rfl,h.used _,(aA B w).setCell (p:=⟨b,0,none⟩) h.1 _,(dE.refl b w).set 0 _⟩
 ·refine(tG b w h.cell0).mono ?_
  rintro e w' ⟨rfl,rfl⟩;exact⟨rfl,h,aA B _,dE.refl b _⟩
theorem jE(B b:Nat)(l:List UInt8)(c:UInt8)(w:World)(h:IsW B b l w)(hlen:l.length≤1099511627776)(hBw:B≤w.heap.size):
  Calls Tryz.prog 54 #[.pointer (some ⟨b,0,none⟩),.int .u8 (c.toNat:Int)] w fun e w'=>e=.returned .nilIface∧(IsW B b (l++[c]) w'∧Below B w w'∧dE b w w'):=by
 obtain⟨i0,hi,hz0,hz1,hz2⟩:=info_parts Tryz.infoByte;have k1:=jD B b l w h;clear h
 go_enter Tryz.func54,Tryz.ntmps54
 go_wp2_with (go_at_call 92;refine k1.mono ?_)
 rintro e w1 ⟨rfl,h1,hb1,hkw1⟩;obtain⟨hB,v,hbk,hown,hne⟩:=h1;rw[fD] at hown;have c0:w1.cell? ⟨b,0,none⟩=some (.pointer (some ⟨b,0,none⟩)):=by rw[aq hbk];rfl
 have c1:w1.cell? ⟨b,1,none⟩=some v:=by rw[aq hbk];rfl
 go_wp2_with (at_builtin;refine wpList_append_own _ rfl _ _ 58 rfl B 5 i0 (.int .u8 0) 1 1 Tryz.underlying58 hi hz0 hz1 hz2 rfl (by decide) _ _ _ rfl (hown.alloc _) ⟨w1.heap.size,0,none⟩ 1 1 [.int .u8 c.toNat] rfl rfl (cell_one_new _ _ _) ?c2 ?c3 ?c4 ?c5 ?_)
 case c2=>intro u hu;simp at hu;subst hu;rfl
 case c3=>unfold maxLen;omega
 case c4=>omega
 case c5=>have:=hb1.size;simp;omega
 intro v' w2 hown' hgrow _;have hlt:b<w1.heap.size:=by
  rcases Nat.lt_or_ge b w1.heap.size with h'|h'
  ·exact h'
  ·simp[Array.getElem?_eq_none h'] at hbk
 have hb2:w2.heap[b]?=some (.cells #[.pointer (some ⟨b,0,none⟩),v] 60 (0,0)):=by
  rw[hgrow.block b (by simp;omega) (fun e=>hne e.symm),alloc_old w1 _ b hlt];exact hbk
 have d0:w2.cell? ⟨b,0,none⟩=some (.pointer (some ⟨b,0,none⟩)):=by rw[aq hb2];rfl
 have d1:w2.cell? ⟨b,1,none⟩=some v:=by rw[aq hb2];rfl
 have f1:w2.frozen? ⟨b,1,none⟩=false:=aj hb2 1;obtain⟨g,cap,rfl⟩:∃g cap,v'=.slice (some ⟨g,0,none⟩) (l.length+1) cap:=by
  rcases hown'.2 with⟨_,h0⟩|⟨g,cap,cur,hv,_⟩
  ·omega
  ·exact⟨g,cap,hv⟩
 go_wp2
 go_ret
 refine⟨rfl,.inr ?_,?_,((hkw1.alloc _).grown (hown.alloc _) hgrow).set 1 _⟩
 ·rw[kU]
  exact Lib.BuilderAt.put (T:=60) (e:=5) hB hb2 (bs':=bV l++[.int .u8 c.toNat]) (by simpa[fD] using hown') (by decide)
 ·exact((hb1.alloc (by have:=hb1.size;omega) _).grown hgrow (by have:=hb1.size;simp;omega) (fun k hk=>(hown.lt k hk).1)).setCell (p:=⟨b,1,none⟩) hB _
theorem fk(B b:Nat)(l s:List UInt8)(w:World)(h:IsW B b l w)(hlen:l.length≤1099511627776)(hs:s.length≤8796093022208)(hBw:B≤w.heap.size):
  Calls Tryz.prog 55 #[.pointer (some ⟨b,0,none⟩),.string ⟨s.toArray⟩] w fun e w'=>e=.returned (.tuple #[.int .i64 s.length,.nilIface])∧(IsW B b (l++s) w'∧Below B w w'∧dE b w w'):=by
 obtain⟨i0,hi,hz0,hz1,hz2⟩:=info_parts Tryz.infoByte;have k1:=jD B b l w h;clear h;have hs2:(⟨s.toArray⟩:ByteArray).size=s.length:=Lib.size_mk _
 go_enter Tryz.func55,Tryz.ntmps55
 go_wp2_with (go_at_call 92;refine k1.mono ?_)
 rintro e w1 ⟨rfl,h1,hb1,hkw1⟩;obtain⟨hB,v,hbk,hown,hne⟩:=h1;rw[fD] at hown;have c0:w1.cell? ⟨b,0,none⟩=some (.pointer (some ⟨b,0,none⟩)):=by rw[aq hbk];rfl
 have c1:w1.cell? ⟨b,1,none⟩=some v:=by rw[aq hbk];rfl
 go_wp2_with (at_builtin;refine Lib.wpList_append_own_string _ rfl _ _ 58 9 rfl B 5 i0 Tryz.underlying58 Tryz.underlying9 hi hz0 hz1 hz2 _ _ _ rfl hown ⟨s.toArray⟩ rfl ?c3 ?c4 ?c5 ?_)
 case c3=>unfold maxLen;omega
 case c4=>omega
 case c5=>have:=hb1.size;omega
 intro v' w2 hown' hgrow _;have hlt:b<w1.heap.size:=by
  rcases Nat.lt_or_ge b w1.heap.size with h'|h'
  ·exact h'
  ·simp[Array.getElem?_eq_none h'] at hbk
 have hb2:w2.heap[b]?=some (.cells #[.pointer (some ⟨b,0,none⟩),v] 60 (0,0)):=by
  rw[hgrow.block b hlt (fun e=>hne e.symm)];exact hbk
 have d0:w2.cell? ⟨b,0,none⟩=some (.pointer (some ⟨b,0,none⟩)):=by rw[aq hb2];rfl
 have d1:w2.cell? ⟨b,1,none⟩=some v:=by rw[aq hb2];rfl
 have f1:w2.frozen? ⟨b,1,none⟩=false:=aj hb2 1;obtain⟨ao,n',cap,rfl⟩:∃ao n' cap,v'=.slice ao n' cap:=by
  rcases hown'.2 with⟨hv,_⟩|⟨g,cap,cur,hv,_⟩
  ·exact⟨_,_,_,hv⟩
  ·exact⟨_,_,_,hv⟩
 go_wp2
 go_ret2
 refine⟨rfl,.inr ?_,?_,(hkw1.grown hown hgrow).set 1 _⟩
 ·rw[kU]
  exact Lib.BuilderAt.put (T:=60) (e:=5) hB hb2 (bs':=bV l++bV s) (by simpa[fD,mY] using hown') (by decide)
 ·exact(hb1.grown hgrow (by have:=hb1.size;omega) (fun k hk=>(hown.lt k hk).1)).setCell (p:=⟨b,1,none⟩) hB _
theorem rs(B b:Nat)(l:List UInt8)(w:World)(h:IsW B b l w)(h0:l≠[]):
  Calls Tryz.prog 31 #[.pointer (some ⟨b,0,none⟩)] w fun e w'=>e=.returned (.string ⟨l.toArray⟩)∧Below B w w':=by
 obtain⟨p,hB,v,hbk,hown,hne⟩:∃p,WAt B b p l w:=by
  rcases h with h|h
  ·exact⟨_,h⟩
  ·exact⟨_,h⟩
 have hl0:l.length≠0:=by simpa using h0
 rw[fD] at hown;obtain⟨g,cap,cur,rfl,hbg,hg,hnc,hcm,hcs,htake⟩:∃g cap cur,v=.slice (some ⟨g,0,none⟩) l.length cap∧B≤g∧Hc w g cur 5∧l.length≤cap∧cap≤maxLen∧cur.size=cap*1∧cur.toList.take (l.length*1)=bV l:=by
  rcases hown.2 with⟨_,hz⟩|⟨g,cap,cur,hv,r⟩
  ·exact absurd hz hl0
  ·exact⟨g,cap,cur,hv,r⟩
 have c1:w.drew.cell? ⟨b,1,none⟩=some (.slice (some ⟨g,0,none⟩) l.length cap):=by
  have:Hc w.drew b #[p,.slice (some ⟨g,0,none⟩) l.length cap] 60:=hbk;rw[aq this];rfl
 have hSD:(Builtin.unsafeSliceData_ #[58] 95 #[.slice (some ⟨g,0,none⟩) l.length cap]).run Tryz.prog w.drew=.ok (.pointer (some ⟨g,0,none⟩)) w.drew:=
  Lib.run_unsafeSliceData_row _ _ _ _ _ _ (by omega)
 have hUS:(Builtin.unsafeString_ #[95,3] 9 #[.pointer (some ⟨g,0,none⟩),.int .i64 l.length]).run Tryz.prog w.drew=.ok (.string ⟨l.toArray⟩) (w.drew.freeze ⟨g,0,none⟩ l.length):=by
  refine Lib.run_unsafeString_row w.drew 95 3 9 5 Tryz.underlying95 Tryz.cellsByte g cur.size (by have hg':Hc w.drew g cur 5:=hg;simp[World.shape?,hg']) l h0 (by omega) (by unfold maxLen at hcm;omega) ?_;intro j x hx;exact hown.cells (g:=g) rfl j (.int .u8 x.toNat) (by simp[bV,hx])
 clear htake hcs hg h
 go_enter Tryz.func31,Tryz.ntmps31
 go_wp2
 go_region
 all_goals (go_wp2;go_ret;exact⟨rfl,Lib.below_freeze (Below.drew (aA B w)) (p:=⟨g,0,none⟩) hbg _⟩)
end Go.Proofs.YtfhghdcbofbceaaGreatDoor
