/- Base, CardBaseC, PlainBer, BerA, MapK, RngT, Gen, BerB. -/
import Derived.Test.YthpcpdplcicfoaaGreatDoorShelf
import Derived.WalkKit
import Derived.WalkLawsBesides
import Derived.WalkSpells
import Derived.Deep.QuietTactic
import Derived.BigQuiet
import Derived.Lib.AppendStr
import Derived.Lib.OthersKept
import Derived.Lib.Hide
import Derived.Lib.TrimUEq
import Derived.Lib.ValidLaws
import Derived.Laws.Runes
import Derived.Test.YthpcpdplcicfoaaGreatDoorCards
import Derived.Test.YthpcpdplcicfoaaGreatDoorTie
import Derived.ProofKit
import Derived.OpenShut
import Derived.Deep.DeepHandedRow
import Derived.Deep.DeepWitnessRowRef
import Derived.Lib.LaidTab
import Derived.Lib.LaidIn
import Derived.Lib.LaidU8T
import Derived.SizedLaws
import Derived.MapKept
import Derived.RegionTactic
import Derived.OrdersHeld
import Derived.Laws.Rows
import Derived.Laws.Tables
import Derived.Deep.AppendLies
namespace Go.Proofs.YthpcpdplcicfoaaGreatDoor
open Go.RowKit Go.Lib
open Go.Shelf Go.ChangeShapes Go.WideShapes Go.ChangeAt Go.RowKit Go.Lib
open Go.RowKit
theorem ag:type_of% @Calls.mono:=@Calls.mono
theorem aq:type_of% @cell_of_heap:=@cell_of_heap
theorem ah:type_of% @Nat.le_refl:=@Nat.le_refl
theorem ai:type_of% @Option.bind_some:=@Option.bind_some
theorem aj:type_of% @Lib.frozen_of_heap:=@Lib.frozen_of_heap
theorem aA:type_of% @Below.refl:=@Below.refl
theorem aw:type_of% @Option.map_some:=@Option.map_some
theorem an:type_of% @decide_eq_false:=@decide_eq_false
theorem aH:type_of% @bodyPost_ret:=@bodyPost_ret
theorem aE:type_of% @beq_false_of_ne:=@beq_false_of_ne
theorem aC:type_of% @decide_eq_true:=@decide_eq_true
theorem aB:type_of% @wpList_plain:=@wpList_plain
theorem aD:type_of% @Option.some.inj:=@Option.some.inj
theorem aG:type_of% @List.length_cons:=@List.length_cons
theorem aJ:type_of% @run_loadVar_row:=@run_loadVar_row
theorem ax:type_of% @Option.bind_eq_some_iff:=@Option.bind_eq_some_iff
theorem aK:type_of% @IntKind.wrap_i64:=@IntKind.wrap_i64
theorem aI:type_of% @Bool.and_eq_true:=@Bool.and_eq_true
theorem aP:type_of% @Prod.mk.inj:=@Prod.mk.inj
theorem aQ:type_of% @wp_region_list:=@wp_region_list
theorem aR:type_of% @wp_region_held:=@wp_region_held
theorem aN:type_of% @List.cons.inj:=@List.cons.inj
theorem aU:type_of% @List.length_nil:=@List.length_nil
theorem aM:type_of% @List.getElem?_eq_getElem:=@List.getElem?_eq_getElem
theorem aV:type_of% @Option.map_eq_some_iff:=@Option.map_eq_some_iff
theorem ba:type_of% @wpAnyH_done:=@wpAnyH_done
theorem aW:type_of% @Bool.false_eq_true:=@Bool.false_eq_true
theorem aX:type_of% @Below.heap_setCell:=@Below.heap_setCell
theorem aT:type_of% @decide_eq_true_eq:=@decide_eq_true_eq
theorem bd:type_of% @List.length_append:=@List.length_append
theorem aZ:type_of% @List.not_mem_nil:=@List.not_mem_nil
theorem aY:type_of% @List.mem_cons:=@List.mem_cons
theorem be:type_of% @Option.bind_none:=@Option.bind_none
theorem bn:type_of% @Option.map_none:=@Option.map_none
theorem Cg{a b:Prop}(x:a)(y:b):RowKit.Hid a∧RowKit.Hid b:=⟨x,y⟩
theorem Ch{a b c:Prop}(x:a)(xb:b)(xc:c):RowKit.Hid a∧RowKit.Hid b∧RowKit.Hid c:=⟨x,Cg xb xc⟩
theorem Ci{a b c d:Prop}(x:a)(xb:b)(xc:c)(xd:d):RowKit.Hid a∧RowKit.Hid b∧RowKit.Hid c∧RowKit.Hid d:=⟨x,Ch xb xc xd⟩
theorem Cj{a b c d e:Prop}(x:a)(xb:b)(xc:c)(xd:d)(xe:e):RowKit.Hid a∧RowKit.Hid b∧RowKit.Hid c∧RowKit.Hid d∧RowKit.Hid e:=⟨x,Ci xb xc xd xe⟩
theorem Cy{a b c d e f:Prop}(x:a)(xb:b)(xc:c)(xd:d)(xe:e)(xf:f):RowKit.Hid a∧RowKit.Hid b∧RowKit.Hid c∧RowKit.Hid d∧RowKit.Hid e∧RowKit.Hid f:=⟨x,Cj xb xc xd xe xf⟩
theorem Ck{a b c d e f g:Prop}(x:a)(xb:b)(xc:c)(xd:d)(xe:e)(xf:f)(xg:g):RowKit.Hid a∧RowKit.Hid b∧RowKit.Hid c∧RowKit.Hid d∧RowKit.Hid e∧RowKit.Hid f∧RowKit.Hid g:=⟨x,Cy xb xc xd xe xf xg⟩
theorem Cx{a b c d e f g h:Prop}(x:a)(xb:b)(xc:c)(xd:d)(xe:e)(xf:f)(xg:g)(xh:h):RowKit.Hid a∧RowKit.Hid b∧RowKit.Hid c∧RowKit.Hid d∧RowKit.Hid e∧RowKit.Hid f∧RowKit.Hid g∧RowKit.Hid h:=⟨x,Ck xb xc xd xe xf xg xh⟩
theorem CE{a b c d e f g h i:Prop}(x:a)(xb:b)(xc:c)(xd:d)(xe:e)(xf:f)(xg:g)(xh:h)(xi:i):RowKit.Hid a∧RowKit.Hid b∧RowKit.Hid c∧RowKit.Hid d∧RowKit.Hid e∧RowKit.Hid f∧RowKit.Hid g∧RowKit.Hid h∧RowKit.Hid i:=⟨x,Cx xb xc xd xe xf xg xh xi⟩
theorem Cz{a b c d e f g h i j:Prop}(x:a)(xb:b)(xc:c)(xd:d)(xe:e)(xf:f)(xg:g)(xh:h)(xi:i)(xj:j):RowKit.Hid a∧RowKit.Hid b∧RowKit.Hid c∧RowKit.Hid d∧RowKit.Hid e∧RowKit.Hid f∧RowKit.Hid g∧RowKit.Hid h∧RowKit.Hid i∧RowKit.Hid j:=⟨x,CE xb xc xd xe xf xg xh xi xj⟩
theorem CA{a b c d e f g h i j k:Prop}(x:a)(xb:b)(xc:c)(xd:d)(xe:e)(xf:f)(xg:g)(xh:h)(xi:i)(xj:j)(xk:k):RowKit.Hid a∧RowKit.Hid b∧RowKit.Hid c∧RowKit.Hid d∧RowKit.Hid e∧RowKit.Hid f∧RowKit.Hid g∧RowKit.Hid h∧RowKit.Hid i∧RowKit.Hid j∧RowKit.Hid k:=⟨x,Cz xb xc xd xe xf xg xh xi xj xk⟩
theorem CC{a b c d e f g h i j k l:Prop}(x:a)(xb:b)(xc:c)(xd:d)(xe:e)(xf:f)(xg:g)(xh:h)(xi:i)(xj:j)(xk:k)(xl:l):RowKit.Hid a∧RowKit.Hid b∧RowKit.Hid c∧RowKit.Hid d∧RowKit.Hid e∧RowKit.Hid f∧RowKit.Hid g∧RowKit.Hid h∧RowKit.Hid i∧RowKit.Hid j∧RowKit.Hid k∧RowKit.Hid l:=⟨x,CA xb xc xd xe xf xg xh xi xj xk xl⟩
theorem CD{a b c d e f g h i j k l m:Prop}(x:a)(xb:b)(xc:c)(xd:d)(xe:e)(xf:f)(xg:g)(xh:h)(xi:i)(xj:j)(xk:k)(xl:l)(xm:m):RowKit.Hid a∧RowKit.Hid b∧RowKit.Hid c∧RowKit.Hid d∧RowKit.Hid e∧RowKit.Hid f∧RowKit.Hid g∧RowKit.Hid h∧RowKit.Hid i∧RowKit.Hid j∧RowKit.Hid k∧RowKit.Hid l∧RowKit.Hid m:=⟨x,CC xb xc xd xe xf xg xh xi xj xk xl xm⟩
theorem Dq{a b c d e f g h i j k l m n:Prop}(x:a)(xb:b)(xc:c)(xd:d)(xe:e)(xf:f)(xg:g)(xh:h)(xi:i)(xj:j)(xk:k)(xl:l)(xm:m)(xn:n):RowKit.Hid a∧RowKit.Hid b∧RowKit.Hid c∧RowKit.Hid d∧RowKit.Hid e∧RowKit.Hid f∧RowKit.Hid g∧RowKit.Hid h∧RowKit.Hid i∧RowKit.Hid j∧RowKit.Hid k∧RowKit.Hid l∧RowKit.Hid m∧RowKit.Hid n:=⟨x,CD xb xc xd xe xf xg xh xi xj xk xl xm xn⟩
theorem Dr{a b c d e f g h i j k l m n o:Prop}(x:a)(xb:b)(xc:c)(xd:d)(xe:e)(xf:f)(xg:g)(xh:h)(xi:i)(xj:j)(xk:k)(xl:l)(xm:m)(xn:n)(xo:o):RowKit.Hid a∧RowKit.Hid b∧RowKit.Hid c∧RowKit.Hid d∧RowKit.Hid e∧RowKit.Hid f∧RowKit.Hid g∧RowKit.Hid h∧RowKit.Hid i∧RowKit.Hid j∧RowKit.Hid k∧RowKit.Hid l∧RowKit.Hid m∧RowKit.Hid n∧RowKit.Hid o:=⟨x,Dq xb xc xd xe xf xg xh xi xj xk xl xm xn xo⟩
theorem Ds{a b c d e f g h i j k l m n o p:Prop}(x:a)(xb:b)(xc:c)(xd:d)(xe:e)(xf:f)(xg:g)(xh:h)(xi:i)(xj:j)(xk:k)(xl:l)(xm:m)(xn:n)(xo:o)(xp:p):RowKit.Hid a∧RowKit.Hid b∧RowKit.Hid c∧RowKit.Hid d∧RowKit.Hid e∧RowKit.Hid f∧RowKit.Hid g∧RowKit.Hid h∧RowKit.Hid i∧RowKit.Hid j∧RowKit.Hid k∧RowKit.Hid l∧RowKit.Hid m∧RowKit.Hid n∧RowKit.Hid o∧RowKit.Hid p:=⟨x,Dr xb xc xd xe xf xg xh xi xj xk xl xm xn xo xp⟩
theorem kkn{G:Act→World→Prop}{R:(Act→World→Prop)→Prop}{a':Act}{w':World}(h:G a' w')(e:∀K:Act→World→Prop,K a' w'→R K:=by intro K hK;go_simp;exact hK):∀K':Act→World→Prop,(∀a w,G a w→K' a w)→R K':=fun K hK=>e K (hK _ _ h)
theorem kks{S:World→Prop}{G:Act→World→Prop}{R:(Act→World→Prop)→Prop}{a':Act}{w':World}(hS:S w')(h:G a' w')(e:∀K:Act→World→Prop,K a' w'→R K:=by intro K hK;go_simp;exact hK):∀K':Act→World→Prop,(∀a w,S w→G a w→K' a w)→R K':=fun K hK=>e K (hK _ _ hS h)
theorem nmm{α:Type}(e:α):∃x,e=x:=⟨e,rfl⟩
theorem btt{w w' w2:World}(h:Below w.heap.size w w')(k:Below w'.heap.size w' w2):Below w.heap.size w w2:=h.trans (k.mono h.size)
theorem bkk{w w':World}{i:Nat}{x:Obj}(h:Below w.heap.size w w')(r:w.heap[i]?=some x):w'.heap[i]?=some x:=(h.block _ (Array.getElem?_eq_some_iff.1 r).1).trans r
theorem cval{w:World}{b:Nat}{cs:Array Value}{T:TypeId}{fr:Nat×Nat}(h:w.heap[b]?=some (.cells cs T fr))(j:Nat)(v:Value)(e:cs[j]?=some v:=by exact rfl):w.cell? ⟨b,j,none⟩=some v:=(Lib.cell_of_heap h j).trans e
set_option maxRecDepth 100000
set_option maxHeartbeats 16000000
theorem gl{α:Type _}{a:Array α}{i:Nat}{x:α}(h:a[i]?=some x):i<a.size:=(Array.getElem?_eq_some_iff.1 h).1
abbrev Zm:Array Value:=#[.int .i64 0,.int .i64 0,.string ⟨#[]⟩,.int .i64 0,.bool false,.string ⟨#[]⟩,.int .i64 0,.int .i64 0,.int .i64 0,.int .i64 0,.bool false,.slice none 0 0,.slice none 0 0,.slice none 0 0,.slice none 0 0,.string ⟨#[]⟩,.string ⟨#[]⟩,.bool false,.bool false,.string ⟨#[]⟩,.string ⟨#[]⟩,.string ⟨#[]⟩,.bool false,.int .i64 0,.int .i64 0,.string ⟨#[]⟩,.string ⟨#[]⟩,.slice none 0 0]
abbrev Ze:Array Value:=#[.int .i64 0,.int .i64 0,.bool false,.string ⟨#[]⟩,.slice none 0 0]
abbrev Zf:Array Value:=#[.int .i64 0,.int .i64 0,.string ⟨#[]⟩,.string ⟨#[]⟩,.string ⟨#[]⟩,.string ⟨#[]⟩,.slice none 0 0]
abbrev Es:Value:=.string ⟨#[]⟩
abbrev Sn:Value:=.slice none 0 0
abbrev I0:Value:=.int .i64 0
abbrev Bf:Value:=.bool false
abbrev Cr(n:FuncId)(x:Array Value)(w:World)(v:Value):Prop:=Calls Tryz.prog n x w fun e w'=>e=.returned v∧Below w.heap.size w w'
theorem bj{w:World}{a:Addr}{v:Value}(h:w.cell? a=some v):a.block<w.heap.size:=by
 rcases Nat.lt_or_ge a.block w.heap.size with h'|h'
 ·exact h'
 ·simp[World.cell?,Array.getElem?_eq_none h'] at h
structure Env (w:World):Prop where
 tabs:Lib.Utf8Tabs 1 2 w
 maxl:∃m,w.cell? ⟨0,0,none⟩=some (.int .i64 m)
theorem Env.below{w w':World}(h:Env w)(hb:Below w.heap.size w w'):Env w':=
 ⟨Utf8Tabs_below h.tabs hb,by obtain⟨m,hm⟩:=h.maxl;exact⟨m,(hb.cell (bj hm)).trans hm⟩⟩
theorem cM{a b c:World}(h:Below a.heap.size a b)(k:Below b.heap.size b c):Below a.heap.size a c:=btt h k
def bV(l:List UInt8):List Value:=l.map fun b=>Value.int .u8 b.toNat
theorem fD(l:List UInt8):(bV l).length=l.length:=by simp[bV]
theorem kU(a b:List UInt8):bV (a++b)=bV a++bV b:=by simp[bV]
theorem mY(s:ByteArray):strCells s=bV s.data.toList:=rfl
theorem jU:∀(l:List UInt8) (s:ByteArray),(l.map fun b=>(b.toNat:Int)).foldl (fun r n=>r.push (UInt8.ofNat n.toNat)) s=⟨(s.data.toList++l).toArray⟩
 |[],s=>by cases s;simp
 |b::l,s=>by
  simp only[List.map_cons,List.foldl_cons];rw[jU l]
  simp[ByteArray.push]
theorem eU{P:Program}(w:World)(src dst e:TypeId)(a:Addr)(c:Nat)(l:List UInt8)
  (hs:P.underlying src=some (.slice e)) (he:P.underlying e=some (.int .u8)) (hd:P.underlying dst=some .string)
  (h:∀j u,(bV l)[j]?=some u→w.cell? (a.add j)=some u):
  (convert src dst (.slice (some a) l.length c)).run P w=.ok (.string ⟨l.toArray⟩) w:=by
 rw[run_convert_bytes_string w src dst e _ _ _ hs he hd];have hl:=run_loadCells_list (P:=P) w a (bV l) h;rw[fD] at hl;have:bV l=(l.map fun b=>(b.toNat:Int)).map (Value.int .u8):=by simp[bV]
 rw[this] at hl;rw[run_bytesToString w a l.length c _ hl,jU]
 simp
theorem mZ{P:Program}(w:World)(src dst e:TypeId)(a:Option Addr)(c:Nat)
  (hs:P.underlying src=some (.slice e)) (he:P.underlying e=some (.int .u8)) (hd:P.underlying dst=some .string):
  (convert src dst (.slice a 0 c)).run P w=.ok (Es) w:=by
 rw[run_convert_bytes_string w src dst e _ _ _ hs he hd];cases a<;>(simp[Conv.bytesToString,loadCells,loadCellsFrom,ByteArray.empty,ByteArray.emptyWithCapacity];rfl)
theorem eI{P:Program}(w:World)(src dst e:TypeId)(base:Nat)(v:Value)(l:List UInt8)
  (hs:P.underlying src=some (.slice e)) (he:P.underlying e=some (.int .u8)) (hd:P.underlying dst=some .string)
  (h:w.ownsRow base e 1 v l.length (bV l)):
  (convert src dst v).run P w=.ok (.string ⟨l.toArray⟩) w:=by
 rcases h.2 with⟨rfl,hn⟩|⟨g,cap,cur,rfl,_⟩
 ·obtain rfl:l=[]:=List.eq_nil_of_length_eq_zero hn
  exact mZ w src dst e none 0 hs he hd
 ·exact eU w src dst e _ cap l hs he hd (h.cells (g:=g) rfl)
theorem own:ownKnob Tryz.prog.godebug=none:=by kernel_rfl
theorem pO:(Rows.laid_unicode_utf8_acceptRanges:DataW Unit)=Lib.acceptData:=by kernel_rfl
theorem ri:Rows.laid_unicode_utf8_first=Lib.firstData:=by kernel_rfl
noncomputable def gO(os:Os):World:=
 let w0:=World.holding Tryz.prog os ⟨#[],#[],[]⟩
 let put (h:Array Obj) (g:Nat) (cs:Array Value):Array Obj:=h.modify g fun
  | .cells _ t frozen=>.cells cs t frozen
  |o=>o
 let h1:=put w0.heap 1 (Lib.firstTab.map fun z=>Value.int .u8 z).toArray
 let h2:=put h1 2 ((List.range 16).flatMap fun i=>[Value.int .u8 (Lib.accLo i),Value.int .u8 (Lib.accHi i)]).toArray
 {w0 with heap:=h2}
theorem rj(os:Os)(args:Array Value):laidMet Tryz.prog [("unicode/utf8.acceptRanges",Rows.laid_unicode_utf8_acceptRanges),("unicode/utf8.first",Rows.laid_unicode_utf8_first)] ((gO os).forCall (fun _ _=>0) ⟨#[],args,[]⟩).memory:=
 (LaidIn.of_run (l:=[("unicode/utf8.acceptRanges",Rows.laid_unicode_utf8_acceptRanges),("unicode/utf8.first",Rows.laid_unicode_utf8_first)]) [2,1] 8 (by kernel_rfl) (by kernel_rfl) (by kernel_rfl) (by kernel_rfl)).met
theorem tE{W:World}(hL:laidMetH Tryz.prog [("unicode/utf8.acceptRanges",Rows.laid_unicode_utf8_acceptRanges),("unicode/utf8.first",Rows.laid_unicode_utf8_first)] W)(hsh:W.ShapedOpen Tryz.prog):Env W:=by
 refine⟨?_,?_⟩
 ·rw[pO,ri] at hL
  exact utf8Tabs_of_readsT (U8Types.of260 Tryz.lays260) ⟨by kernel_rfl,by kernel_rfl,by kernel_rfl,by kernel_rfl,by kernel_rfl,by kernel_rfl,by kernel_rfl⟩ (Lib.laidMet.reads hL (.tail _ (.head _))) (Lib.laidMet.reads hL (.head _))
 ·exact Tryz.laysM143.s1_3 W hsh
theorem sJ:laidOutB Tryz.prog=true:=by kernel_rfl
theorem uY:mapsRowed Tryz.prog=true:=by kernel_rfl
theorem rl:(List.range Tryz.prog.types.size).all (fun t=>match Tryz.prog.underlying t with|some (.slice e)=>decide (0<Tryz.prog.cellsOf e)|_=>true)=true:=by kernel_rfl
theorem sK:Kids Tryz.prog (·<Tryz.prog.types.size):=kids_rows sJ uY
theorem kV{H:Type}{enc:TypeId×Value→H}{W W':World}(hb:Below W.heap.size W W'):∀(ts:List TypeId) (vs:List Value) (ds:List (DataW H)) (ps:List MemPlace),(∀t∈ts,t<Tryz.prog.types.size)→
  DataW.TrodAll enc Tryz.prog W 0 (fun _=>true) true ts vs ds ps→(∀p∈ps,p.block<W.heap.size)→DataW.TrodAll enc Tryz.prog W' 0 (fun b=>decide (b<W.heap.size)) true ts vs ds ps
 |[],[],[],ps,_,h,_=>h
 |t::ts,v::vs,d::ds,ps,ht,h,hp=>by
  obtain⟨p,q,⟨n,hn⟩,hq,rfl⟩:=h;refine⟨p,q,⟨n,?_⟩,kV hb ts vs ds q (fun t h=>ht t (by simp[h])) hq (fun x hx=>hp x (by simp[hx])),rfl⟩;refine DataW.trod_stays sK (fun{t e} ht hu=>?_) (fun h=>by cases h) (ht t (by simp)) hn (fun x hx=>hb.same (hp x (by simp[hx]))) (fun x hx=>aC (hp x (by simp[hx])));have:=List.all_eq_true.1 rl t (List.mem_range.2 ht);rw[hu] at this;exact of_decide_eq_true this
 |[],[],_::_,_,_,h,_=>h.elim
 |[],_::_,[],_,_,h,_=>h.elim
 |[],_::_,_::_,_,_,h,_=>h.elim
 |_::_,[],[],_,_,h,_=>h.elim
 |_::_,[],_::_,_,_,h,_=>h.elim
 |_::_,_::_,[],_,_,h,_=>h.elim
theorem mb{w:World}{a:Addr}{v:Value}(h:w.cell? a=some v):a.spot=none:=by
 unfold World.cell? at h
 split at h
 ·split at h
  ·cases h
  ·rename_i hs;simpa using hs
 ·cases h
inductive El where
 |mk (cls tag:Int) (cons:Bool) (bytes:List UInt8) (kids:List El)
def El.cls:El→Int
 | .mk c _ _ _ _=>c
def El.tag:El→Int
 | .mk _ t _ _ _=>t
def El.cons:El→Bool
 | .mk _ _ k _ _=>k
def El.bytes:El→List UInt8
 | .mk _ _ _ b _=>b
def El.kids:El→List El
 | .mk _ _ _ _ ks=>ks
abbrev Er(e:El)(a:Option Addr)(c:Nat):Array Value:=#[.int .i64 e.cls,.int .i64 e.tag,.bool e.cons,.string ⟨e.bytes.toArray⟩,.slice a e.kids.length c]
mutual
def ex:El→Nat
 | .mk _ _ _ _ ks=>fT ks+1
def fT:List El→Nat
 |[]=>0
 |e::r=>max (ex e) (fT r)
end
mutual
def SmE:El→Prop
 | .mk _ _ _ b ks=>b.length≤1000000000∧ks.length≤1000000000∧SmL ks
def SmL:List El→Prop
 |[]=>True
 |e::r=>SmE e∧SmL r
end
mutual
def eT(p:El→Bool):Nat→El→Bool
 |d,.mk c t k b ks=>if 20≤d then true else p (.mk c t k b ks)&&dS p (d+1) ks
def dS(p:El→Bool):Nat→List El→Bool
 |_,[]=>true
 |d,e::r=>eT p d e&&dS p d r
end
mutual
def eW:Nat→El→Bool
 |d,.mk _ _ _ _ ks=>if 20≤d then true else eX (d+1) ks
def eX:Nat→List El→Bool
 |_,[]=>false
 |d,e::r=>eW d e||eX d r
end
def cn:El→Bool
 | .mk c t _ _ _=>decide (0≤c)&&decide (c≤3)&&decide (0≤t)&&decide (t≤30)
def dw:El→Bool
 | .mk _ _ k b ks=>if k then decide (b=[]) else decide (ks=[])
def cV(n:Nat):List UInt8:=
 if n<128 then[UInt8.ofNat n] else if n<256 then[129,UInt8.ofNat n] else if n<65536 then[130,UInt8.ofNat (n/256),UInt8.ofNat n] else[131,UInt8.ofNat (n/65536),UInt8.ofNat (n/256),UInt8.ofNat n]
mutual
def bK:El→Nat
 | .mk _ _ _ b ks=>min (1+(cV (min (cw b.length ks) 65537)).length+cw b.length ks) 65537
def cw:Nat→List El→Nat
 |n,[]=>n
 |n,e::r=>cw (min (n+bK e) 65537) r
end
def bR:List El→Nat
 |[]=>0
 |e::r=>bK e+bR r
mutual
def eJ:El→List UInt8
 | .mk c t k b ks=>UInt8.ofNat (c.toNat*64+t.toNat+(if k then 32 else 0))::cV (b.length+bR ks)++b++dq ks
def dq:List El→List UInt8
 |[]=>[]
 |e::r=>eJ e++dq r
end
def dD(e:El):List UInt8×Int:=
 if eT cn 0 e=false then([],21) else if eT dw 0 e=false then([],24) else if eW 0 e then([],23) else if 65536<bK e then([],2) else(eJ e,0)
theorem eV:∀(l:List El) (j:Nat) (e:El),SmL l→l[j]?=some e→SmE e
 |[],_,_,_,h=>by simp at h
 |x::r,0,e,h,hj=>by simp at hj;subst hj;exact h.1
 |x::r,j+1,e,h,hj=>eV r j e h.2 (by simpa using hj)
theorem eK:∀(l:List El) (j:Nat) (e:El),l[j]?=some e→ex e≤fT l
 |[],_,_,h=>by simp at h
 |x::r,0,e,hj=>by simp at hj;subst hj;simp only[fT];omega
 |x::r,j+1,e,hj=>by
  have:=eK r j e (by simpa using hj);simp only[fT];omega
mutual
def ElC(P:Nat→Prop)(w:World):El→Nat→Nat→Prop
 | .mk c t k b ks,g,o=>w.cell? ⟨g,o,none⟩=some (.int .i64 c)∧w.cell? ⟨g,o+1,none⟩=some (.int .i64 t)∧w.cell? ⟨g,o+2,none⟩=some (.bool k)∧w.cell? ⟨g,o+3,none⟩=some (.string ⟨b.toArray⟩)∧
   ∃u,w.cell? ⟨g,o+4,none⟩=some u∧∃a cap,u=.slice a ks.length cap∧ks.length≤cap∧(ks≠[]→∃g' o',a=some ⟨g',o',none⟩∧P g'∧cE P w ks g' o')
def cE(P:Nat→Prop)(w:World):List El→Nat→Nat→Prop
 |[],_,_=>True
 |e::r,g,o=>ElC P w e g o∧cE P w r g (o+5)
end
def bf(P:Nat→Prop)(w:World)(v:Value)(ks:List El):Prop:=
 ∃a cap,v=.slice a ks.length cap∧ks.length≤cap∧(ks≠[]→∃g o,a=some ⟨g,o,none⟩∧P g∧cE P w ks g o)
def elA(e:El)(u:Value):Array Value:=#[.int .i64 e.cls,.int .i64 e.tag,.bool e.cons,.string ⟨e.bytes.toArray⟩,u]
theorem fE{w w':World}{g i:Nat}(h:w'.heap[g]?=w.heap[g]?):w'.cell? ⟨g,i,none⟩=w.cell? ⟨g,i,none⟩:=by
 simp only[World.cell?,h]
mutual
theorem ElC.kept{P Q:Nat→Prop}{w w':World}(hP:∀g,P g→g<w.heap.size→w'.heap[g]?=w.heap[g]?∧Q g):∀(e:El) (g o:Nat),w'.heap[g]?=w.heap[g]?→ElC P w e g o→ElC Q w' e g o
 | .mk c t k b ks,g,o,hg,h=>by
  simp only[ElC] at h⊢;obtain⟨h0,h1,h2,h3,u,h4,a,cap,hu,hc,hk⟩:=h;refine⟨(fE hg).trans h0,(fE hg).trans h1,(fE hg).trans h2,(fE hg).trans h3,u,(fE hg).trans h4,a,cap,hu,hc,fun hn=>?_⟩;obtain⟨g',o',ha,hp,hs⟩:=hk hn;have hlt:g'<w.heap.size:=by
   cases ks with
   |nil=>exact absurd rfl hn
   |cons e r=>
    simp only[cE] at hs;cases e;have hs1:=hs.1;simp only[ElC] at hs1;exact bj hs1.1
  obtain⟨h5,h6⟩:=hP g' hp hlt;exact⟨g',o',ha,h6,cE.kept hP ks g' o' h5 hs⟩
theorem cE.kept{P Q:Nat→Prop}{w w':World}(hP:∀g,P g→g<w.heap.size→w'.heap[g]?=w.heap[g]?∧Q g):∀(l:List El) (g o:Nat),w'.heap[g]?=w.heap[g]?→cE P w l g o→cE Q w' l g o
 |[],_,_,_,_=>by simp only[cE]
 |e::r,g,o,hg,h=>by
  simp only[cE] at h⊢;exact⟨ElC.kept hP e g o hg h.1,cE.kept hP r g (o+5) hg h.2⟩
end
theorem cE.lt{P:Nat→Prop}{w:World}{ks:List El}{g o:Nat}(hn:ks≠[])(hs:cE P w ks g o):g<w.heap.size:=by
 cases ks with
 |nil=>exact absurd rfl hn
 |cons e r=>
  simp only[cE] at hs;cases e;have hs1:=hs.1;simp only[ElC] at hs1;exact bj hs1.1
theorem bf.kept{P Q:Nat→Prop}{w w':World}{v:Value}{ks:List El}(h:bf P w v ks)(hP:∀g,P g→g<w.heap.size→w'.heap[g]?=w.heap[g]?∧Q g):bf Q w' v ks:=by
 obtain⟨a,cap,hv,hc,hk⟩:=h;refine⟨a,cap,hv,hc,fun hn=>?_⟩;obtain⟨g,o,ha,hp,hs⟩:=hk hn;obtain⟨h1,h2⟩:=hP g hp (hs.lt hn);exact⟨g,o,ha,h2,cE.kept hP ks g o h1 hs⟩
theorem bf.below{P:Nat→Prop}{w w':World}{v:Value}{ks:List El}(h:bf P w v ks)(hb:Below w.heap.size w w'):bf P w' v ks:=
 h.kept fun g hp hl=>⟨hb.block g hl,hp⟩
theorem bf.mono{P Q:Nat→Prop}{w:World}{v:Value}{ks:List El}(h:bf P w v ks)(hPQ:∀g,P g→g<w.heap.size→Q g):bf Q w v ks:=
 h.kept fun g hp hl=>⟨rfl,hPQ g hp hl⟩
theorem bf.nil(P:Nat→Prop)(w:World):bf P w (Sn) []:=⟨none,0,rfl,ah _,fun h=>absurd rfl h⟩
theorem bf.shape{P:Nat→Prop}{w:World}{v:Value}{ks:List El}(h:bf P w v ks):∃a c,v=.slice a ks.length c:=by
 obtain⟨a,c,e,_⟩:=h;exact⟨a,c,e⟩
theorem cE.get{P:Nat→Prop}{w:World}:∀(l:List El) (g o j:Nat) (e:El),cE P w l g o→l[j]?=some e→ElC P w e g (o+j*5)
 |[],_,_,_,_,_,h=>by simp at h
 |x::r,g,o,0,e,h,hj=>by
  simp at hj;subst hj
  simp only[cE] at h
  simpa using h.1
 |x::r,g,o,j+1,e,h,hj=>by
  simp only[cE] at h;have:=cE.get r g (o+5) j e h.2 (by simpa using hj);rw[show o+(j+1)*5=o+5+j*5 by omega];exact this
theorem ElC.cells{P:Nat→Prop}{w:World}{e:El}{g o:Nat}(h:ElC P w e g o):w.cell? ⟨g,o,none⟩=some (.int .i64 e.cls)∧w.cell? ⟨g,o+1,none⟩=some (.int .i64 e.tag)∧w.cell? ⟨g,o+2,none⟩=some (.bool e.cons)∧w.cell? ⟨g,o+3,none⟩=some (.string ⟨e.bytes.toArray⟩)∧
  ∃u,w.cell? ⟨g,o+4,none⟩=some u∧bf P w u e.kids:=by
 cases e;simp only[ElC] at h;obtain⟨h0,h1,h2,h3,u,h4,a,cap,hu,hc,hk⟩:=h;exact⟨h0,h1,h2,h3,u,h4,a,cap,hu,hc,hk⟩
theorem ElC.mk{P:Nat→Prop}{w:World}{e:El}{g o:Nat}{u:Value}(h0:w.cell? ⟨g,o,none⟩=some (.int .i64 e.cls))(h1:w.cell? ⟨g,o+1,none⟩=some (.int .i64 e.tag))(h2:w.cell? ⟨g,o+2,none⟩=some (.bool e.cons))(h3:w.cell? ⟨g,o+3,none⟩=some (.string ⟨e.bytes.toArray⟩))
  (h4:w.cell? ⟨g,o+4,none⟩=some u) (hk:bf P w u e.kids):ElC P w e g o:=by
 cases e;simp only[ElC];obtain⟨a,cap,hu,hc,hk⟩:=hk;exact⟨h0,h1,h2,h3,u,h4,a,cap,hu,hc,hk⟩
theorem bC(Y:World)(o:Obj)(n:Nat)(h:n=Y.heap.size):(Y.alloc o).heap[n]?=some o:=by subst h;show(Y.heap.push o)[Y.heap.size]?=some o;simp
theorem alz(w:World)(r:Array Value)(t:Nat):(w.alloc (.cells r t)).heap[w.heap.size]?=some (.cells r t (0,0)):=bC _ _ _ rfl
theorem alb(w:World)(r:Array Value)(t:Nat):Below w.heap.size w (w.alloc (.cells r t)):=(aA _ _).alloc (ah _) _
theorem sL{P:Program}(w:World)(mty kt et:TypeId)(r clock:Nat)(es:Array MapEntry)(k:Int)(val:Value)(hm:P.underlying mty=some (.map kt et))(hk:P.underlying kt=some (.int .i64))(hb:w.heap[r]?=some (.map es clock))
  (hf:Instr.findNow (.int .i64) (.int .i64 k) es.toList 0=some none):
  (Instr.mapUpdate mty (.map (some r)) (.int .i64 k) val).run P w=.ok () {w with heap:=w.heap.setIfInBounds r (.map (es.push {key:=.int .i64 k,val:=val,born:=clock}) (clock+1))}:=by
 have hc:(Instr.checkKey false 10000 kt (.int .i64 k)).run P w=.ok () w:=MapKept.run_checkKey (k:=.int .i64 k) hk (by simp[MapKept.IsKey]) false 9999
 simp[Instr.mapUpdate,run_underlying hm,MapKept.run_getObj_map hb,hc,MapKept.run_findKey hk hf,MapKept.run_setObj_map _ hb,Result.andThen]
theorem oE{P:Program}(w:World)(mty kt et:TypeId)(r clock:Nat)(es:Array MapEntry)(k:Int)(val:Value)(hm:P.underlying mty=some (.map kt et))(hk:P.underlying kt=some (.int .i64))(hb:w.heap[r]?=some (.map es clock))
  (hf:Instr.findNow (.int .i64) (.int .i64 k) es.toList 0=some none):
  ∃w',(Instr.mapUpdate mty (.map (some r)) (.int .i64 k) val).run P w=.ok () w'∧w'.heap[r]?=some (.map (es.push {key:=.int .i64 k,val:=val,born:=clock}) (clock+1))∧w'.heap.size=w.heap.size∧(∀j,j≠r→w'.heap[j]?=w.heap[j]?)∧w'.os=w.os∧w'.tape=w.tape∧w'.output=w.output:=by
 refine⟨_,sL w mty kt et r clock es k val hm hk hb hf,?_,?_,?_,rfl,rfl,rfl⟩
 ·have:=(gl hb)
  simp[this]
 ·simp
 ·intro j hj
  simp[Ne.symm hj]
section
variable {P:Program} {md:Region.Mode} {ops:Array Oper} {Q:Exit→Act→World→Prop} {S:World→Prop} {st:Nat}
def wI(P:Program)(md:Region.Mode)(ops:Array Oper)(Q:Exit→Act→World→Prop)(S:World→Prop)(st:Nat):Nat→Array Bool→Act→World→Prop
 |0,listed,a,w=>Region.ready md ops listed=[]∧Q .normal a w
 |fuel+1,listed,a,w=>
  (Region.ready md ops listed=[]→Q .normal a w)∧
  ∀i∈Region.ready md ops listed,wpOp P ops Q i (fun a' w'=>((listed.setIfInBounds i true).getD st false=true∨S w')∧wI P md ops Q S st fuel (listed.setIfInBounds i true) a' w') a w
theorem xV:∀(fuel:Nat) (listed:Array Bool) (a:Act) (w:World),wI P md ops Q S st fuel listed a w→wpAny P md ops Q fuel listed a w
 |0,_,_,_,h=>h
 |fuel+1,_,_,_,h=>⟨h.1,fun i hi=>wpOp_mono (fun a' w' h'=>xV fuel _ a' w' h'.2) (h.2 i hi)⟩
theorem zS{i:Nat}{oi ost:Oper}{v:Value}(hi:ops[i]?=some oi)(hist:i≠st)(host:ops[st]?=some ost)(hwait:∃e∈ost.after,Region.binds md e=true∧e.on=i)
  (hsel:∀(j:Nat) (o:Oper) cs b,ops[j]?=some o→o.op≠.select cs b) (hQ:∀c a w,Q (.panic c) (a.put oi.dst v) w→Q (.panic c) a w):
  ∀(fuel:Nat) (listed:Array Bool) (a:Act) (w:World),
   (∀j oj,ops[j]?=some oj→j≠i→listed.getD j true=false→(∀e∈oj.after,Region.binds md e=true→e.on≠i)→oi.apart ops oj=true)→
   i∈Region.ready md ops listed→YieldsIf P ops S oi v a→listed.getD st false=false→S w→
   wI P md ops Q S st fuel (listed.setIfInBounds i true) (a.put oi.dst v) w→wI P md ops Q S st (fuel+1) listed a w:=by
 intro fuel
 induction fuel with
 |zero=>
  intro listed a w _ hr hy _ hS H;refine⟨fun h=>(by rw[h] at hr;cases hr),fun j hj=>?_⟩
  by_cases hji:j=i
  ·subst hji;exact hy.wpOp hi hS ⟨.inr hS,H⟩
  ·have:=ready_mono hj hji
   rw[H.1] at this;cases this
 |succ fuel ih=>
  intro listed a w hfree hr hy hst hS H;refine⟨fun h=>(by rw[h] at hr;cases hr),fun j hj=>?_⟩
  by_cases hji:j=i
  ·subst hji;exact hy.wpOp hi hS ⟨.inr hS,H⟩
  ·have h1:=H.2 j (ready_mono hj hji)
   obtain⟨hjun,oj,hoj,hall⟩:=mem_ready.1 hj;have hnot:∀e∈oj.after,Region.binds md e=true→e.on≠i:=fun e he hb heq=>by
    have h1:=hall e he hb;have h0:=(mem_ready.1 hr).1;rw[heq] at h1;rcases Nat.lt_or_ge i listed.size with h'|h'
    ·simp[h'] at h0 h1;rw[h0] at h1;cases h1
    ·simp[Array.getElem?_eq_none h'] at h1
   have hjst:j≠st:=by
    rintro rfl;obtain⟨e,he,hb,heq⟩:=hwait;rw[host] at hoj;cases hoj;exact hnot e he hb heq
   have hs1:(listed.setIfInBounds j true).getD st false=false:=by rw[getD_set_ne false hjst];exact hst
   have hs2:((listed.setIfInBounds i true).setIfInBounds j true).getD st false=false:=by rw[getD_set_ne false hjst,getD_set_ne false hist];exact hst
   have h2:=wpOp_putIf hoj (hfree j oj hoj hji hjun hnot) (fun cs b=>hsel i oi cs b hi) (fun cs b=>hsel j oj cs b hoj) hQ hy h1;have hfree':∀k ok,ops[k]?=some ok→k≠i→(listed.setIfInBounds j true).getD k true=false→
     (∀e∈ok.after,Region.binds md e=true→e.on≠i)→oi.apart ops ok=true:=fun k ok hk hki hun hno=>by
    refine hfree k ok hk hki ?_ hno
    by_cases hjk:j=k
    ·subst hjk;exact hjun
    ·rw[getD_set_ne true hjk] at hun;exact hun
   refine wpOp_mono (fun a' w' h3=>?_) h2;have hS':S w':=by
    rcases h3.2.1 with h|h
    ·rw[hs2] at h;cases h
    ·exact h
   refine⟨.inr hS',ih (listed.setIfInBounds j true) a' w' hfree' (ready_mono hr (Ne.symm hji)) h3.1 hs1 hS' ?_⟩;rw[Array.setIfInBounds_comm _ _ hji];exact h3.2.2
theorem CP(i:Nat)(v:Value){oi ost:Oper}{fuel:Nat}{listed:Array Bool}{a:Act}{w:World}(hi:ops[i]?=some oi)(hist:i≠st)(host:ops[st]?=some ost)
  (hwait:(ost.after.toList.any fun e=>Region.binds md e&&decide (e.on=i))=true) (hs:Region.noSelect ops=true) (hf:Region.free md ops listed i=true) (hr:(Region.ready md ops listed).contains i=true)
  (hQ:∀c a w,Q (.panic c) (a.put oi.dst v) w→Q (.panic c) a w) (hw:Region.wanted oi (yielded ops a.tmps)=true) (hy:∀w,S w→(execOp a.eval oi).run P w=.ok (.value v) w) (hst:listed.getD st false=false) (hS:S w)
  (h:∀K':Act→World→Prop,(∀a w,wI P md ops Q S st fuel (listed.setIfInBounds i true) a w→K' a w)→K' (a.put oi.dst v) w):wI P md ops Q S st (fuel+1) listed a w:=by
 refine zS hi hist host ?_ (Region.noSelect_spec hs) hQ fuel listed a w (Region.free_spec hi hf) (by simpa using hr) (.inl ⟨hw,hy⟩) hst hS (h _ (fun _ _ k=>k));obtain⟨e,he,hb⟩:=List.any_eq_true.1 hwait;simp only[aI,aT] at hb;exact⟨e,by simpa using he,hb.1,hb.2⟩
theorem Aq{i:Nat}{oi:Oper}{v:Value}(hi:ops[i]?=some oi)(hist:i≠st)
  (hsel:∀(j:Nat) (o:Oper) cs b,ops[j]?=some o→o.op≠.select cs b) (hQ:∀c a w,Q (.panic c) (a.put oi.dst v) w→Q (.panic c) a w):
  ∀(fuel:Nat) (listed:Array Bool) (a:Act) (w:World),
   (∀j oj,ops[j]?=some oj→j≠i→listed.getD j true=false→(∀e∈oj.after,Region.binds md e=true→e.on≠i)→oi.apart ops oj=true)→
   i∈Region.ready md ops listed→YieldsIf P ops (fun _=>True) oi v a→(listed.getD st false=true∨S w)→
   wI P md ops Q S st fuel (listed.setIfInBounds i true) (a.put oi.dst v) w→wI P md ops Q S st (fuel+1) listed a w:=by
 intro fuel
 induction fuel with
 |zero=>
  intro listed a w _ hr hy hS H;refine⟨fun h=>(by rw[h] at hr;cases hr),fun j hj=>?_⟩
  by_cases hji:j=i
  ·subst hji;exact hy.wpOp hi trivial ⟨by rw[getD_set_ne false hist];exact hS,H⟩
  ·have:=ready_mono hj hji
   rw[H.1] at this;cases this
 |succ fuel ih=>
  intro listed a w hfree hr hy hS H;refine⟨fun h=>(by rw[h] at hr;cases hr),fun j hj=>?_⟩
  by_cases hji:j=i
  ·subst hji;exact hy.wpOp hi trivial ⟨by rw[getD_set_ne false hist];exact hS,H⟩
  ·have h1:=H.2 j (ready_mono hj hji)
   obtain⟨hjun,oj,hoj,hall⟩:=mem_ready.1 hj;have hnot:∀e∈oj.after,Region.binds md e=true→e.on≠i:=fun e he hb heq=>by
    have h1:=hall e he hb;have h0:=(mem_ready.1 hr).1;rw[heq] at h1;rcases Nat.lt_or_ge i listed.size with h'|h'
    ·simp[h'] at h0 h1;rw[h0] at h1;cases h1
    ·simp[Array.getElem?_eq_none h'] at h1
   have h2:=wpOp_putIf hoj (hfree j oj hoj hji hjun hnot) (fun cs b=>hsel i oi cs b hi) (fun cs b=>hsel j oj cs b hoj) hQ hy h1;have hfree':∀k ok,ops[k]?=some ok→k≠i→(listed.setIfInBounds j true).getD k true=false→
     (∀e∈ok.after,Region.binds md e=true→e.on≠i)→oi.apart ops ok=true:=fun k ok hk hki hun hno=>by
    refine hfree k ok hk hki ?_ hno
    by_cases hjk:j=k
    ·subst hjk;exact hjun
    ·rw[getD_set_ne true hjk] at hun;exact hun
   refine wpOp_mono (fun a' w' h3=>?_) h2;have hS':(listed.setIfInBounds j true).getD st false=true∨S w':=by
    rcases h3.2.1 with h|h
    ·rw[Array.setIfInBounds_comm _ _ (Ne.symm hji),getD_set_ne false hist] at h
     exact .inl h
    ·exact .inr h
   refine⟨hS',ih (listed.setIfInBounds j true) a' w' hfree' (ready_mono hr (Ne.symm hji)) h3.1 hS' ?_⟩;rw[Array.setIfInBounds_comm _ _ hji];exact h3.2.2
theorem rg(i:Nat)(v:Value){oi:Oper}{fuel:Nat}{listed:Array Bool}{a:Act}{w:World}(hi:ops[i]?=some oi)(hist:i≠st)
  (hs:Region.noSelect ops=true) (hf:Region.free md ops listed i=true) (hr:(Region.ready md ops listed).contains i=true)
  (hQ:∀c a w,Q (.panic c) (a.put oi.dst v) w→Q (.panic c) a w) (hw:Region.wanted oi (yielded ops a.tmps)=true) (hy:∀w,(execOp a.eval oi).run P w=.ok (.value v) w) (hS:listed.getD st false=true∨S w)
  (h:∀K':Act→World→Prop,(∀a w,wI P md ops Q S st fuel (listed.setIfInBounds i true) a w→K' a w)→K' (a.put oi.dst v) w):wI P md ops Q S st (fuel+1) listed a w:=
 Aq hi hist (Region.noSelect_spec hs) hQ fuel listed a w (Region.free_spec hi hf) (by simpa using hr) (.inl ⟨hw,fun w _=>hy w⟩) hS (h _ (fun _ _ k=>k))
theorem nC(i:Nat){o:Oper}{fuel:Nat}{listed:Array Bool}{a:Act}{w:World}(hr:Region.ready md ops listed=[i])(ho:ops[i]?=some o)(hw:Region.wanted o (yielded ops a.tmps)=true)
  (h:∀K':Act→World→Prop,(∀a w,((listed.setIfInBounds i true).getD st false=true∨S w)→wI P md ops Q S st fuel (listed.setIfInBounds i true) a w→K' a w)→Oper.wp P o a w K' Q):wI P md ops Q S st (fuel+1) listed a w:=by
 refine⟨fun h0=>(by rw[hr] at h0;cases h0),fun j hj=>?_⟩;rw[hr] at hj;simp only[List.mem_singleton] at hj;subst hj;unfold wpOp;rw[ho];simp only[hw,if_true];exact .inl (h _ (fun _ _ s k=>⟨s,k⟩))
theorem CQ{listed:Array Bool}{a:Act}{w:World}(hr:Region.ready md ops listed=[])(h:Q .normal a w):∀fuel,wI P md ops Q S st fuel listed a w
 |0=>⟨hr,h⟩
 |_+1=>⟨fun _=>h,by rw[hr];simp⟩
theorem zE{id:Nat}{a:Act}{w:World}(hm:P.follows .mixedOrders=true)
  (h:wI P .any ops Q S st ops.size (Array.replicate ops.size false) a w.drew):(Code.region id ops true).wp P Q a w:=
 wp_region_any hm (xV _ _ _ _ h)
end
theorem ge{w w':World}{base e size n:Nat}{v:Value}{xs:List Value}(h:w.ownsRow base e size v n xs)(hb:Below w.heap.size w w'):w'.ownsRow base e size v n xs:=by
 refine⟨h.1,?_⟩;rcases h.2 with hn|⟨g,cap,cur,rfl,hbg,hg,rest⟩
 ·exact .inl hn
 ·exact .inr ⟨g,cap,cur,rfl,hbg,by rw[hb.block g (gl hg)];exact hg,rest⟩
theorem kW(w:World)(b i:Nat)(v:Value):w.grownBy (w.setCell ⟨b,i,none⟩ v) (some b):=
 ⟨rfl,rfl,rfl,Nat.le_of_eq (by simp),fun k _ hne=>aX w ⟨b,i,none⟩ v k (fun e=>hne (congrArg some e))⟩
theorem dH{w:World}{base e size n g cap i:Nat}{xs:List Value}{x:Value}(h:w.ownsRow base e size (.slice (some ⟨g,0,none⟩) n cap) n xs)(_hi:i<xs.length):
  (w.setCell ⟨g,i,none⟩ x).ownsRow base e size (.slice (some ⟨g,0,none⟩) n cap) n (xs.set i x):=by
 refine⟨by rw[List.length_set];exact h.1,?_⟩;rcases h.2 with⟨h1,_⟩|⟨g',cap',cur,hv,hb,hg,hc,hm,hs,ht⟩
 ·cases h1
 ·cases hv
  refine .inr ⟨g,cap,cur.setIfInBounds i x,rfl,hb,?_,hc,hm,by simpa using hs,?_⟩
  ·simp[World.setCell,Array.getElem?_modify,hg]
  ·rw[Array.toList_setIfInBounds,List.take_set,ht]
theorem cJ{w:World}{base e size n g cap:Nat}{xs:List Value}(h:w.ownsRow base e size (.slice (some ⟨g,0,none⟩) n cap) n xs){i:Nat}{x:Value}(hi:xs[i]?=some x):w.cell? ⟨g,i,none⟩=some x∧w.frozen? ⟨g,i,none⟩=false:=by
 have hadd:(⟨g,0,none⟩:Addr).add i=⟨g,i,none⟩:=by unfold Addr.add;split<;>simp_all
 have k1:=h.cells (g:=g) rfl _ _ hi;rw[hadd] at k1;refine⟨k1,?_⟩;rcases h.2 with⟨h1,_⟩|⟨g',cap',cur,hv,hb,hg,_⟩
 ·cases h1
 ·cases hv
  exact aj hg i
theorem cq{w:World}{C i:Nat}{cs:Array Value}{t:TypeId}{u:Value}(h:w.heap[C]?=some (.cells cs t (0,0))):(w.setCell ⟨C,i,none⟩ u).heap[C]?=some (.cells (cs.setIfInBounds i u) t (0,0)):=by
 simp[World.setCell,Array.getElem?_modify,h]
theorem gf{w:World}{base e size n:Nat}{v:Value}{xs:List Value}(h:w.ownsRow base e size v n xs):∃a c,v=.slice a n c:=by
 rcases h.2 with⟨rfl,h0⟩|⟨g,cap,cur,rfl,_⟩
 ·exact⟨none,0,by rw[h0]⟩
 ·exact⟨_,_,rfl⟩
theorem Cb{w:World}{base base' e size n:Nat}{v:Value}{xs:List Value}(h:w.ownsRow base e size v n xs)(hb:base'≤base):w.ownsRow base' e size v n xs:=by
 refine⟨h.1,?_⟩;rcases h.2 with h1|⟨g,cap,cur,h1,h2,h3⟩
 ·exact .inl h1
 ·exact .inr ⟨g,cap,cur,h1,Nat.le_trans hb h2,h3⟩
theorem fU{B:Nat}{a w:World}(h:Below B a w)(n:Nat):Below B a (w.drewN n):=⟨h.os,h.tape,h.output,h.size,h.block⟩
theorem bg{P:Program}{w:World}{ops:Array Oper}{rest:List Oper}{o:Oper}{a:Act}{Q:Exit→Act→World→Prop}(hgd:o.guard=none)(t:TypeId)(x:Operand)(ho:o.op=.load t x)
  (g:Nat) (ty:TypeId) (cs:Array Value) (fr:Nat×Nat) (hx:a.eval x=.pointer (some ⟨g,0,none⟩)) (hg:w.heap[g]?=some (.cells cs ty fr)) (d:TypeDesc) (hu:P.underlying t=some d)
  (hd:(match d with| .struct _| .array _ _=>true|_=>false)=true) (hi:(P.info? t).map (·.size)=some cs.size)
  (h:wpList P ops Q rest (a.put o.dst (.agg cs)) w):wpList P ops Q (o::rest) a w:=by
 refine aB hgd fun K hK=>?_
 have hr:=aJ (P:=P) w g ty t cs fr d hg hu hd hi;unfold Oper.wp execOp;simp only[ho,hx,Instr.loadAt,Instr.sureAddr,Sem.run_bind,Sem.run_pure,Result.andThen_ok,hr];exact hK _ _ h
theorem bh{P:Program}{w:World}{ops:Array Oper}{rest:List Oper}{o:Oper}{a:Act}{Q:Exit→Act→World→Prop}(hgd:o.guard=none)(t:TypeId)(x y:Operand)(ho:o.op=.store t x y)
  (g:Nat) (ty:TypeId) (old cs:Array Value) (hx:a.eval x=.pointer (some ⟨g,0,none⟩)) (hy:a.eval y=.agg cs) (hg:w.heap[g]?=some (.cells old ty (0,0))) (hi:(P.info? t).map (·.size)=some cs.size) (hs:old.size=cs.size) (h1:cs.all (·.oneCell')=true)
  (h:wpList P ops Q rest (a.put o.dst (.tuple #[])) (w.setRow g cs)):wpList P ops Q (o::rest) a w:=by
 refine aB hgd fun K hK=>?_
 have hr:=run_storeVar_row (P:=P) w g ty t old cs hg hi hs h1;unfold Oper.wp execOp;simp only[ho,hx,hy,Instr.storeAt,Instr.sureAddr,Sem.run_bind,Sem.run_pure,Result.andThen_ok,hr];exact hK _ _ h
theorem pP(w:World)(b:Nat)(cs:Array Value):w.grownBy (w.setRow b cs) (some b):=
 ⟨rfl,rfl,rfl,by simp[World.setRow],fun k _ hne=>setRow_other w b k cs (fun e=>hne (congrArg some e))⟩
theorem bm{B g:Nat}{a w:World}(h:Below B a w)(hg:B≤g)(cs:Array Value):Below B a (w.setRow g cs):=
 h.trans ⟨rfl,rfl,rfl,by simp[World.setRow],fun k hk=>setRow_other w g k cs (by omega)⟩
theorem cU{P:Program}{w:World}{o:Oper}{a:Act}(t:TypeId)(x:Operand)(ho:o.op=.load t x)
  (g:Nat) (ty:TypeId) (cs:Array Value) (fr:Nat×Nat) (hx:a.eval x=.pointer (some ⟨g,0,none⟩)) (hg:w.heap[g]?=some (.cells cs ty fr)) (d:TypeDesc) (hu:P.underlying t=some d)
  (hd:(match d with| .struct _| .array _ _=>true|_=>false)=true) (hi:(P.info? t).map (·.size)=some cs.size):(execOp a.eval o).run P w=.ok (.value (.agg cs)) w:=by
 have hr:=aJ (P:=P) w g ty t cs fr d hg hu hd hi;unfold execOp;simp only[ho,hx,Instr.loadAt,Instr.sureAddr,Sem.run_bind,Sem.run_pure,Result.andThen_ok,hr]
theorem bQ{P:Program}{w:World}{ops:Array Oper}{rest:List Oper}{o:Oper}{a:Act}{Q:Exit→Act→World→Prop}(hwd:Region.wanted o (yielded ops a.tmps)=true)(t:TypeId)(x:Operand)(ho:o.op=.load t x)
  (g:Nat) (ty:TypeId) (cs:Array Value) (fr:Nat×Nat) (hx:a.eval x=.pointer (some ⟨g,0,none⟩)) (hg:w.heap[g]?=some (.cells cs ty fr)) (d:TypeDesc) (hu:P.underlying t=some d)
  (hd:(match d with| .struct _| .array _ _=>true|_=>false)=true) (hi:(P.info? t).map (·.size)=some cs.size)
  (h:wpList P ops Q rest (a.put o.dst (.agg cs)) w):wpList P ops Q (o::rest) a w:=by
 refine wpList_step fun K hK=>?_
 rw[if_pos hwd];have hr:=aJ (P:=P) w g ty t cs fr d hg hu hd hi;unfold Oper.wp execOp;simp only[ho,hx,Instr.loadAt,Instr.sureAddr,Sem.run_bind,Sem.run_pure,Result.andThen_ok,hr];exact hK _ _ h
theorem pQ{P:Program}{md:Region.Mode}{ops:Array Oper}{Q:Exit→Act→World→Prop}{S:World→Prop}(i:Nat)(v:Value){oi:Oper}{fuel:Nat}{listed:Array Bool}{a:Act}{w:World}(hi:ops[i]?=some oi)
  (hs:Region.noSelect ops=true) (hf:Region.free md ops listed i=true) (hr:(Region.ready md ops listed).contains i=true) (hQ:∀c a w,Q (.panic c) (a.put oi.dst v) w→Q (.panic c) a w)
  (hw:Region.wanted oi (yielded ops a.tmps)=true) (hy:∀w,S w→(execOp a.eval oi).run P w=.ok (.value v) w) (hS:S w)
  (h:∀K':Act→World→Prop,(∀a w,wpAnyH P md ops Q S fuel (listed.setIfInBounds i true) a w→K' a w)→K' (a.put oi.dst v) w):wpAnyH P md ops Q S (fuel+1) listed a w:=
 wpAnyH_take hi hs hf hr hQ (Or.inl ⟨hw,hy⟩) hS (h _ (fun _ _ k=>k))
theorem tk{P:Program}{md:Region.Mode}{ops:Array Oper}{Q:Exit→Act→World→Prop}{S:World→Prop}(i:Nat)(v:Value){oi:Oper}{fuel:Nat}{listed:Array Bool}{a:Act}{w:World}(hi:ops[i]?=some oi)
 (hy:∀w,S w→(execOp a.eval oi).run P w=.ok (.value v) w) (hS:S w)
 (h:∀K':Act→World→Prop,(∀a w,wpAnyH P md ops Q S fuel (listed.setIfInBounds i true) a w→K' a w)→K' (a.put oi.dst v) w)
 (hs:Region.noSelect ops=true:=by kernel_rfl) (hf:Region.free md ops listed i=true:=by kernel_rfl) (hr:(Region.ready md ops listed).contains i=true:=by kernel_rfl) (hQ:∀c a w,Q (.panic c) (a.put oi.dst v) w→Q (.panic c) a w:=by exact fun _ _ _ h=>h)
 (hw:Region.wanted oi (yielded ops a.tmps)=true:=by rfl):wpAnyH P md ops Q S (fuel+1) listed a w:=
 pQ i v hi hs hf hr hQ hw hy hS h
theorem tn{P:Program}{md:Region.Mode}{ops:Array Oper}{Q:Exit→Act→World→Prop}{S:World→Prop}(i:Nat)(v:Value){oi:Oper}{fuel:Nat}{listed:Array Bool}{a a':Act}{w:World}(hi:ops[i]?=some oi)
 (hy:∀w,S w→(execOp a.eval oi).run P w=.ok (.value v) w) (hS:S w) (h:wpAnyH P md ops Q S fuel (listed.setIfInBounds i true) a' w) (ha:a.put oi.dst v=a':=by first|(go_simp;rfl)|rfl)
 (hs:Region.noSelect ops=true:=by kernel_rfl) (hf:Region.free md ops listed i=true:=by kernel_rfl) (hr:(Region.ready md ops listed).contains i=true:=by kernel_rfl) (hQ:∀c a w,Q (.panic c) (a.put oi.dst v) w→Q (.panic c) a w:=by exact fun _ _ _ h=>h)
 (hw:Region.wanted oi (yielded ops a.tmps)=true:=by rfl):wpAnyH P md ops Q S (fuel+1) listed a w:=
 tk i v hi hy hS (fun _ hK=>hK _ _ (ha▸h)) hs hf hr hQ hw
theorem tp{P:Program}{md:Region.Mode}{ops:Array Oper}{Q:Exit→Act→World→Prop}{S:World→Prop}(i:Nat)(p:Addr){oi:Oper}{fuel:Nat}{listed:Array Bool}{a a':Act}{w:World}(hi:ops[i]?=some oi)
 (hS:S w) (h:wpAnyH P md ops Q S fuel (listed.setIfInBounds i true) a' w) (hy:∀w,S w→(execOp a.eval oi).run P w=.ok (.value (.pointer (some p))) w:=by intro w' hS;go_simp) (ha:a.put oi.dst (.pointer (some p))=a':=by first|(go_simp;rfl)|rfl)
 (hs:Region.noSelect ops=true:=by kernel_rfl) (hf:Region.free md ops listed i=true:=by kernel_rfl) (hr:(Region.ready md ops listed).contains i=true:=by kernel_rfl) (hQ:∀c a w,Q (.panic c) (a.put oi.dst (.pointer (some p))) w→Q (.panic c) a w:=by exact fun _ _ _ h=>h)
 (hw:Region.wanted oi (yielded ops a.tmps)=true:=by rfl):wpAnyH P md ops Q S (fuel+1) listed a w:=
 tn i _ hi hy hS h ha hs hf hr hQ hw
theorem rn{P:Program}{md:Region.Mode}{ops:Array Oper}{Q:Exit→Act→World→Prop}{S:World→Prop}(i:Nat){o:Oper}{fuel:Nat}{listed:Array Bool}{a:Act}{w:World}
  (hr:Region.ready md ops listed=[i]) (ho:ops[i]?=some o) (hw:Region.wanted o (yielded ops a.tmps)=true)
  (h:∀K':Act→World→Prop,(∀a w,S w→wpAnyH P md ops Q S fuel (listed.setIfInBounds i true) a w→K' a w)→Oper.wp P o a w K' Q):wpAnyH P md ops Q S (fuel+1) listed a w:=
 wpAnyH_all hr (by simp) (fun j hj=>by
  simp only[List.mem_singleton] at hj;subst hj;unfold wpOp;rw[ho];simp only[hw,if_true];exact .inl (h _ (fun _ _ s k=>⟨s,k⟩)))
theorem ao{P:Program}{md:Region.Mode}{ops:Array Oper}{Q:Exit→Act→World→Prop}{S:World→Prop}(i:Nat){o:Oper}{fuel:Nat}{listed:Array Bool}{a:Act}{w:World}
 (ho:ops[i]?=some o) (h:∀K':Act→World→Prop,(∀a w,S w→wpAnyH P md ops Q S fuel (listed.setIfInBounds i true) a w→K' a w)→Oper.wp P o a w K' Q) (hr:Region.ready md ops listed=[i]:=by kernel_rfl)
 (hw:Region.wanted o (yielded ops a.tmps)=true:=by rfl):wpAnyH P md ops Q S (fuel+1) listed a w:=rn i hr ho hw h
theorem fq{P:Program}{md:Region.Mode}{ops:Array Oper}{Q:Exit→Act→World→Prop}{S:World→Prop}(i j:Nat){o o':Oper}{fuel:Nat}{listed:Array Bool}{a:Act}{w:World}
  (hr:Region.ready md ops listed=[i,j]) (ho:ops[i]?=some o) (hw:Region.wanted o (yielded ops a.tmps)=true) (ho':ops[j]?=some o') (hw':Region.wanted o' (yielded ops a.tmps)=true)
  (h:∀K':Act→World→Prop,(∀a w,S w→wpAnyH P md ops Q S fuel (listed.setIfInBounds i true) a w→K' a w)→Oper.wp P o a w K' Q)
  (h':∀K':Act→World→Prop,(∀a w,S w→wpAnyH P md ops Q S fuel (listed.setIfInBounds j true) a w→K' a w)→Oper.wp P o' a w K' Q):wpAnyH P md ops Q S (fuel+1) listed a w:=
 wpAnyH_all hr (by simp) (fun k hk=>by
  simp only[aY,aZ,or_false] at hk;rcases hk with rfl|rfl
  ·unfold wpOp
   rw[ho];simp only[hw,if_true];exact .inl (h _ (fun _ _ s k=>⟨s,k⟩))
  ·unfold wpOp
   rw[ho'];simp only[hw',if_true];exact .inl (h' _ (fun _ _ s k=>⟨s,k⟩)))
theorem Tryz.infoElement:(Tryz.prog.info? 61).map (fun i=>(i.zero,i.size,i.bytes))=some (some (.agg Ze),5,64):=by kernel_rfl
def cx:List El→List Value→List Value
 |[],_=>[]
 |_::_,[]=>[]
 |e::es,u::us=>.int .i64 e.cls::.int .i64 e.tag::.bool e.cons::.string ⟨e.bytes.toArray⟩::u::cx es us
theorem iY:∀(es:List El) (us:List Value),us.length=es.length→(cx es us).length=es.length*5
 |[],_,_=>rfl
 |_::_,[],h=>by simp at h
 |e::es,u::us,h=>by
  have:=iY es us (by simpa using h);simp only[cx,aG,this]
  omega
theorem wt:∀(es:List El) (us:List Value) (e:El) (u:Value),us.length=es.length→cx (es++[e]) (us++[u])=cx es us++[.int .i64 e.cls,.int .i64 e.tag,.bool e.cons,.string ⟨e.bytes.toArray⟩,u]
 |[],[],_,_,_=>rfl
 |[],_::_,_,_,h=>by simp at h
 |_::_,[],_,_,h=>by simp at h
 |x::es,v::us,e,u,h=>by
  have:=wt es us e u (by simpa using h);simp only[List.cons_append,cx,this]
theorem iZ:∀(es:List El) (us:List Value) (j:Nat) (e:El) (u:Value),es[j]?=some e→us[j]?=some u→
  (cx es us)[j*5]?=some (.int .i64 e.cls)∧(cx es us)[j*5+1]?=some (.int .i64 e.tag)∧(cx es us)[j*5+2]?=some (.bool e.cons)∧(cx es us)[j*5+3]?=some (.string ⟨e.bytes.toArray⟩)∧(cx es us)[j*5+4]?=some u
 |[],_,_,_,_,h,_=>by simp at h
 |_::_,[],_,_,_,_,h=>by simp at h
 |x::es,v::us,0,e,u,h1,h2=>by
  simp at h1 h2;subst h1 h2
  exact⟨rfl,rfl,rfl,rfl,rfl⟩
 |x::es,v::us,j+1,e,u,h1,h2=>by
  have:=iZ es us j e u (by simpa using h1) (by simpa using h2);rw[show(j+1)*5=j*5+5 by omega];exact this
theorem cE.of{P:Nat→Prop}{w:World}:∀(l:List El) (g o:Nat),(∀(j:Nat) (e:El),l[j]?=some e→ElC P w e g (o+j*5))→cE P w l g o
 |[],_,_,_=>by simp only[cE]
 |x::r,g,o,h=>by
  simp only[cE];refine⟨by simpa using h 0 x rfl,cE.of r g (o+5) fun j e hj=>?_⟩;have:=h (j+1) e (by simpa using hj);rw[show o+(j+1)*5=o+5+j*5 by omega] at this;exact this
theorem jI{P:Nat→Prop}{N:Nat}{w:World}{v:Value}{l:List El}{us:List Value}(h:w.ownsRow N 61 5 v l.length (cx l us))(hl:us.length=l.length)
  (hk:∀(j:Nat) (e:El) (u:Value),l[j]?=some e→us[j]?=some u→bf P w u e.kids) (hP:∀g,N≤g→P g):bf P w v l:=by
 rcases id h.2 with⟨rfl,h0⟩|⟨g,cap,cur,rfl,hb,hg,hc,_⟩
 ·have:l=[]:=List.length_eq_zero_iff.1 h0
  subst this;exact bf.nil _ _
 ·refine⟨some ⟨g,0,none⟩,cap,rfl,hc,fun _=>⟨g,0,rfl,hP g hb,cE.of l g 0 fun j e hj=>?_⟩⟩
  obtain⟨u,hu⟩:∃u,us[j]?=some u:=⟨us[j]'(by rw[hl];exact(List.getElem?_eq_some_iff.1 hj).1),aM _⟩;obtain⟨q0,q1,q2,q3,q4⟩:=iZ l us j e u hj hu;rw[Nat.zero_add];exact ElC.mk (cJ h q0).1 (cJ h q1).1 (cJ h q2).1 (cJ h q3).1 (cJ h q4).1 (hk j e u hj hu)
-- COPIES
def uZ(w:World)(l:List El)(v i:Value)(wr:World):Prop:=
 ∃(k:Nat) (us:List Value),i=.int .i64 (k:Int)∧k≤l.length∧wr.ownsRow w.heap.size 61 5 v k (cx (l.take k) us)∧us.length=k∧Below w.heap.size w wr∧
  ∀(j:Nat) (e:El) (u:Value),(l.take k)[j]?=some e→us[j]?=some u→bf (fun g=>w.heap.size≤g∧v.ownBlock≠some g) wr u e.kids
theorem dV{e:El}(h:SmE e):e.bytes.length≤1000000000∧e.kids.length≤1000000000∧SmL e.kids:=by
 cases e
 simpa only[SmE,El.bytes,El.kids] using h
theorem eu(e:El):ex e=fT e.kids+1:=by
 cases e;simp only[ex,El.kids]
theorem xx(n:Nat):∀(l:List El),fT l≤n→SmL l→l.length≤1000000000→∀(v:Value) (w:World),bf (fun _=>True) w v l→
  Calls Tryz.prog 54 #[v] w fun e w'=>(∃v',e=.returned v'∧bf (fun g=>w.heap.size≤g) w' v' l)∧Below w.heap.size w w':=by
 induction n using Nat.strongRecOn with
 |ind n ih=>
 intro l hd hs hll v w h;obtain⟨i0,hi0,hz0,hz1,hz2⟩:=info_parts Tryz.infoElement;obtain⟨H,HD,HS,IH⟩:=Ci h hd hs ih;clear hd hs ih;obtain⟨a,cap,rfl,hc,hk0⟩:=h;clear hk0
 go_enter Tryz.func54,Tryz.ntmps54
 go_wp2_with fail
 go_loopw [3,8] (fun v i wr=>uZ w l v i wr) (fun _ i _=>l.length -(RowKit.intOf i).toNat)
 case atStart=>exact⟨0,[],rfl,Nat.zero_le _,World.ownsRow_nil _ _ _ _,rfl,aA _ _,fun j e u h=>by simp at h⟩
 case round=>
  obtain⟨k,us,rfl,hk,hown,hul,hbe,hkids⟩:=hrel;obtain⟨av,cv,hfv⟩:=gf hown;subst hfv
  by_cases hkl:k<l.length
  ·obtain⟨e,he⟩:∃e,l[k]?=some e:=⟨l[k],aM hkl⟩
   obtain⟨a',cap',e',_,hsrc⟩:=H.out.below hbe;cases e';obtain⟨g,o,ha,_,hcells⟩:=hsrc (by intro h0;rw[h0] at hkl;simp at hkl);subst ha;obtain⟨p0,p1,p2,p3,u,p4,hu⟩:=(cE.get l g o k e hcells he).cells;obtain⟨au,cu,hfu⟩:=hu.shape;subst hfu;obtain⟨sb,sk,sl⟩:=dV (eV l k e HS.out he);have hdep:fT e.kids<n:=by have h1:=eK l k e he;have h2:=eu e;have:=HD.out;omega
   have i1:(k:Int)<(l.length:Int):=by omega
   have i3:decide ((k:Int)<(l.length:Int))=true:=aC i1;have hlt:=hown.lt;obtain⟨HE,HK,HO⟩:=Ch he hkids hown;have hszr:=hbe.size;clear hsrc hcells he hkids hown
   go_wp2_with fail
   have n1:=alb wr (Er e au cu) 61;have n2:(wr.alloc (.cells (Er e au cu) 61)).heap[wr.heap.size]?=some (.cells (elA e (.slice au e.kids.length cu)) 61 (0,0)):=bC _ _ _ rfl;generalize wr.alloc (.cells (Er e au cu) 61)=w1 at n1 n2⊢;have q4:=cval n2 4 (.slice au e.kids.length cu);have kc:=IH.out (fT e.kids) hdep e.kids (ah _) sl sk _ w1 (hu.below n1);refine ag kc ?_;rintro e2 w2 ⟨⟨u2,rfl,hu2⟩,hb2⟩;obtain⟨a2,c2,hf2⟩:=hu2.shape;subst hf2;have hB1:=(gl n2);have n3:=(hb2.block _ hB1).trans n2;have q5:=(hb2.cell (bj q4)).trans q4;have z5:=aj n3 4;have n4:(w2.setCell ⟨wr.heap.size,4,none⟩ (.slice a2 e.kids.length c2)).heap[wr.heap.size]?=some (.cells (Er e a2 c2) 61 (0,0)):=cq (i:=4) (u:=.slice a2 e.kids.length c2) n3;have hown3:(w2.setCell ⟨wr.heap.size,4,none⟩ (.slice a2 e.kids.length c2)).ownsRow w.heap.size 61 5 (.slice av k cv) k (cx (l.take k) us):=
    (ge (ge HO.out n1) hb2).kept (kW w2 wr.heap.size 4 _) (.inr (fun h=>by have:=(hlt _ h).2;omega))
   have hs1:=n1.size;have hs2:=hb2.size;have hs3:(w2.setCell ⟨wr.heap.size,4,none⟩ (.slice a2 e.kids.length c2)).heap.size=w2.heap.size:=by simp[World.setCell]
   have hB3:Below w.heap.size w (w2.setCell ⟨wr.heap.size,4,none⟩ (.slice a2 e.kids.length c2)):=((hbe.trans (n1.mono hszr)).trans (hb2.mono (by omega))).setCell (p:=⟨wr.heap.size,4,none⟩) hszr _;have hold:∀g,g<wr.heap.size→(w2.setCell ⟨wr.heap.size,4,none⟩ (.slice a2 e.kids.length c2)).heap[g]?=wr.heap[g]?:=fun g hg=>(aX w2 ⟨wr.heap.size,4,none⟩ _ g (by show g≠wr.heap.size;omega)).trans ((hb2.block g (by omega)).trans (n1.block g hg))
   have hnew:∀g,w1.heap.size≤g→(w2.setCell ⟨wr.heap.size,4,none⟩ (.slice a2 e.kids.length c2)).heap[g]?=w2.heap[g]?:=fun g hg=>aX w2 ⟨wr.heap.size,4,none⟩ _ g (by show g≠wr.heap.size;omega)
   obtain⟨HOLD,HNEW,HLT⟩:=Ch hold hnew hlt;clear q4 n2 n3 kc hu hold hnew hlt p0 p1 p2 p3 p4;have hs3':=Nat.le_of_eq hs3.symm;clear hs3
   go_wp2_with (first
    |(generalize(w2.setCell ⟨wr.heap.size,4,none⟩ (.slice a2 e.kids.length c2))=w3 at n4 hown3 hs3' hB3 HOLD HNEW⊢;refine bg rfl 61 (.tmp 5) rfl wr.heap.size 61 _ (0,0) (by rfl) n4 _ Tryz.underlying61 rfl (by rfl) ?_)
    |(at_builtin;refine wpList_append_lies _ rfl (.tmp 16) (.tmp 18) 59 rfl w.heap.size 61 i0 _ 5 64 Tryz.underlying59 hi0 hz0 hz1 hz2 rfl (by decide) (.slice av k cv) k (cx (l.take k) us) rfl (hown3.alloc _) ⟨w3.heap.size,0,none⟩ 1 1 [.int .i64 e.cls,.int .i64 e.tag,.bool e.cons,.string ⟨e.bytes.toArray⟩,.slice a2 e.kids.length c2] rfl rfl (World.news_of_block (bC _ _ _ rfl)) (by simp[Value.oneCell']) (by decide) (by unfold maxLen;omega) (by omega) (by simp;omega) (w3.heap.size+1) (by simp) ?_;intro g5 cap5 w5 ho5 hg5 hat5 hlt5))
   have hts:l.take (k+1)=l.take k++[e]:=by rw[List.take_add_one,HE.out];rfl
   have hlk:us.length=(l.take k).length:=by rw[hul,List.length_take];omega
   refine⟨⟨k+1,us++[.slice a2 e.kids.length c2],by go_num,by omega,by rw[hts,wt _ _ _ _ hlk];exact ho5,by simp[hul],(hB3.alloc (by omega) _).grown hg5 (by simp;omega) (fun b hb=>(HLT.out b hb).1),fun j e' u' q1 q2=>?_⟩,by simp[RowKit.intOf];omega⟩;have hown5:∀g',g'<w3.heap.size→(.slice av k cv:Value).ownBlock≠some g'→w5.heap[g']?=w3.heap[g']?∧(.slice (some ⟨g5,0,none⟩) (k+1) cap5:Value).ownBlock≠some g':=by
    intro g' hg' hne;refine⟨(hg5.block g' (by simp;omega) (fun h=>hne h.symm)).trans (alloc_old _ _ _ hg'),fun h=>?_⟩;rcases hat5 with h5|h5
    ·have:g5=g':=by simpa[Value.ownBlock] using h
     subst this;exact hne h5
    ·have:g5=g':=by simpa[Value.ownBlock] using h
     omega
   rw[hts] at q1
   by_cases hjk:j<k
   ·rw[List.getElem?_append_left (by rw[←hlk,hul];exact hjk)] at q1
    rw[List.getElem?_append_left (by rw[hul];exact hjk)] at q2;refine(HK.out j e' u' q1 q2).kept fun g' hg' hlt'=>?_
    obtain⟨r1,r2⟩:=hown5 g' (by omega) hg'.2;exact⟨r1.trans (HOLD.out g' hlt'),hg'.1,r2⟩
   ·have hj:j=k:=by
     have:=(List.getElem?_eq_some_iff.1 q2).1
     simp[hul] at this
     omega
    subst hj;rw[List.getElem?_append_right (by rw[←hlk,hul];exact ah _),←hlk,hul,Nat.sub_self] at q1;rw[List.getElem?_append_right (by rw[hul];exact ah _),hul,Nat.sub_self] at q2;cases q1;cases q2;refine hu2.kept fun g' hg' hlt'=>?_
    obtain⟨r1,r2⟩:=hown5 g' (by omega) (fun h=>by have:=(HLT.out g' h).2;omega);exact⟨r1.trans (HNEW.out g' hg'),by omega,r2⟩
  ·obtain rfl:k=l.length:=by omega
   rw[List.take_of_length_le (ah _)] at hown hkids;have hlt:=hown.lt;have res:=jI (P:=fun g=>w.heap.size≤g) hown hul (fun j e u q1 q2=>(hkids j e u q1 q2).mono (fun g hg _=>hg.1)) (fun g hg=>hg);have HR:=hid res;clear hown hkids res
   go_wp2_with fail
   go_ret
   exact⟨⟨_,rfl,HR.out⟩,hbe⟩
end Go.Proofs.YthpcpdplcicfoaaGreatDoor
