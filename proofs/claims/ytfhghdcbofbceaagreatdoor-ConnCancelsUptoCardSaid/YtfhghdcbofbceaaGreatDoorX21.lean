/- CoE, CoF, CoG, CoH, CoI, CoJ, CoK, CoL, CoM, CoN, SmA. -/
import Derived.Deep.MidRow
import Derived.Deep.QuietTactic
import Derived.Test.YtfhghdcbofbceaaGreatDoorX20
namespace Go.Proofs.YtfhghdcbofbceaaGreatDoor
open Go.RowKit Go.Lib
set_option maxRecDepth 100000
set_option maxHeartbeats 16000000
theorem CG(g o cap:Nat)(cur:Array Value)(w:World)(hg:Hc w g cur 32)(hc:o+28≤cur.size):
  ∃Z:List Value,Z.length=28∧∀ty,(Builtin.clear_ #[22] ty #[.slice (some ⟨g,o,none⟩) 1 cap]).run Tryz.prog w=.ok (.tuple #[]) (w.setRow g (cur.toList.take o++Z++cur.toList.drop (o+28)).toArray):=by
 have hz:(zeroValue 32).run Tryz.prog w=.ok (.agg Zm) w:=by go_simp
 have hzc:(Builtin.zeroCells (Value.agg Zm).cells 1).toList=(Zm:Array Value).toList:=by kernel_rfl
 have hst:=run_storeCells_at (P:=Tryz.prog) g o 32 (Zm:Array Value).toList 0 cur w hg (by simpa using hc) (by simp[Value.oneCell']);refine⟨(Zm:Array Value).toList,rfl,fun ty=>?_⟩;simp only[Builtin.clear_,List.getElem?_toArray,List.getElem?_cons_zero,Sem.run_bind,run_underlying (show Tryz.prog.underlying 22=some (.slice 32) by kernel_rfl),Result.andThen,hz,hzc,hst]
 rfl
theorem lM:∀(Ms:List Mg) (i:Nat),i<Ms.length→cC (Ms.eraseIdx i)=(cC Ms).take (i*28)++(cC Ms).drop ((i+1)*28)
 |[],i,h=>by simp at h
 |m::r,0,_=>by
  show cC r=_;have:cC (m::r)=m.row.toList++cC r:=rfl;rw[this,Nat.zero_mul,List.take_zero,List.nil_append];exact(List.drop_left (l₁:=m.row.toList)).symm
 |m::r,i+1,h=>by
  have ih:=lM r i (by simpa using h);have h1:cC ((m::r).eraseIdx (i+1))=m.row.toList++cC (r.eraseIdx i):=rfl;have h2:cC (m::r)=m.row.toList++cC r:=rfl;have hl:m.row.toList.length=28:=rfl;rw[h1,h2,ih,List.take_append,List.drop_append,hl,show(i+1)*28 -28=i*28 by omega,show(i+1+1)*28 -28=(i+1)*28 by omega,List.take_of_length_le (l:=m.row.toList) (by omega),List.drop_of_length_le (l:=m.row.toList) (by omega),List.nil_append,List.append_assoc]
theorem vc(g n cap k:Nat)(w:World)(hk:k≤cap):(Instr.slice 22 (.slice (some ⟨g,0,none⟩) n cap) none (some (.int .i64 (k:Int))) none).run Tryz.prog w=.ok (.slice (some ⟨g,0,none⟩) k cap) w:=by
 have h1:(0:Int)≤(k:Int)∧(k:Int)≤(cap:Int):=by omega
 simp[Instr.slice,Instr.sliceBounds,Instr.sliceBound,asIntOf,run_underlying (show Tryz.prog.underlying 22=some (.slice 32) by kernel_rfl),hk,sizeOf,Addr.add]
theorem ve(g n cap k:Nat)(w:World)(hk:k≤n)(hk0:k*28≠0):(Instr.slice 22 (.slice (some ⟨g,0,none⟩) n cap) (some (.int .i64 (k:Int))) none none).run Tryz.prog w=.ok (.slice (some (if cap=k then⟨g,0,none⟩ else⟨g,k*28,none⟩)) (n -k) (cap -k)) w:=by
 obtain⟨i0,hi0,hz0,hz1,hz2⟩:=info_parts Tryz.infoMessage;have h1:(0:Int)≤(k:Int)∧(k:Int)≤(n:Int):=by omega
 by_cases hc:cap=k
 ·simp[Instr.slice,Instr.sliceBounds,Instr.sliceBound,asIntOf,run_underlying (show Tryz.prog.underlying 22=some (.slice 32) by kernel_rfl),hk, sizeOf,typeInfo,hi0, Addr.add,hc]
 ·simp[Instr.slice,Instr.sliceBounds,Instr.sliceBound,asIntOf,run_underlying (show Tryz.prog.underlying 22=some (.slice 32) by kernel_rfl),hk,hk0,sizeOf,typeInfo,hi0,hz1,Addr.add,hc]
theorem A3{ρ:Operand→Value}{o:Oper}{x:Operand}{lo hi:Option Operand}{r:Value}{w:World}{l h:Option Value}{a:Option Addr}{n c:Nat}(ho:o.op=.slice 22 x lo hi none)(hx:ρ x=.slice a n c)(hlo:lo.map ρ=l)(hhi:hi.map ρ=h)
  (hr:(Instr.slice 22 (.slice a n c) l h none).run Tryz.prog w=.ok r w):(execOp ρ o).run Tryz.prog w=.ok (.value r) w:=by
 subst hlo hhi
 simp[execOp,ho,hx,Instr.sliceAt,run_underlying (show Tryz.prog.underlying 22=some (.slice 32) by kernel_rfl),hr]
theorem Dt{P:Program}{o:Oper}{a:Act}{K:Act→World→Prop}{Q:Exit→Act→World→Prop}{w w':World}(s x:Operand){t:TypeId}{v y r:Value}(ho:o.op=.call {callee:=.builtin .append,args:=#[s,x],argTypes:=#[t,t]})(hs:a.eval s=v)(hx:a.eval x=y)
  (hr:∀ty,(Builtin.append_ #[t,t] ty #[v,y]).run P w=.ok r w') (h:K (a.put o.dst r) w'):o.wp P a w K Q:=by
 unfold Oper.wp execOp;simp only[ho,resolve,invoke,builtin,Sem.run_bind,Sem.run_pure,Result.andThen_ok,List.map_toArray,List.map_cons,List.map_nil,hs,hx,hr];exact h
theorem CH(g q cap i:Nat)(Ms:List Mg)(w:World)(h:w.ownsRow 0 32 28 (.slice (some ⟨g,0,none⟩) (q+1) cap) (q+1) (cC Ms))(hi:i≤q)(h1:∀u∈cC Ms,u.oneCell'=true):
  Calls Tryz.prog 67 #[.slice (some ⟨g,0,none⟩) (q+1) cap,.int .i64 (i:Int),.int .i64 ((i:Int)+1)] w fun e w'=>e=.returned (.slice (some ⟨g,0,none⟩) q cap)∧w'.ownsRow 0 32 28 (.slice (some ⟨g,0,none⟩) q cap) q (cC (Ms.eraseIdx i))∧Kb (fun j=>j=g) w w':=by
 obtain⟨i0,hi0,hz0,hz1,hz2⟩:=info_parts Tryz.infoMessage;obtain⟨cur,hgw,hn,hm,hcs,htake⟩:∃cur,Hc w g cur 32∧q+1≤cap∧cap≤maxLen∧cur.size=cap*28∧cur.toList.take ((q+1)*28)=cC Ms:=by
  rcases h.2 with⟨h0,_⟩|⟨g',cap',cur,hv,_,hg,hn,hm,hcs,ht⟩
  ·cases h0
  ·cases hv
   exact⟨cur,hg,hn,hm,hcs,ht⟩
 have hlen:(cC Ms).length=(q+1)*28:=h.1;have hMs:Ms.length=q+1:=by have:=A9 Ms;omega
 have hcl:cur.toList.length=cap*28:=by simpa using hcs
 obtain⟨news,hN⟩:=nmm ((cC Ms).drop ((i+1)*28));have hNl:news.length=(q -i)*28:=by rw[←hN,List.length_drop];omega
 obtain⟨R1,hR1⟩:=nmm ((cur.toList.take (i*28)++news++cur.toList.drop (i*28+news.length)).toArray);have hR1s:R1.size=cap*28:=by rw[←hR1];simp;omega
 have hR1t:R1.toList.take (q*28)=cC (Ms.eraseIdx i):=by
  rw[←hR1,lM Ms i (by omega),hN,←htake,List.take_take,Nat.min_eq_left (by omega)];simp only[List.append_assoc];rw[←List.append_assoc,List.take_left' (by rw[xn,List.length_take,hNl];omega)]
 have hap:∀(W:World),(∀j:Nat,W.heap[j]?=w.heap[j]?)→∀ty,(Builtin.append_ #[22,22] ty #[.slice (some ⟨g,0,none⟩) i cap,.slice (some (if cap=i+1 then⟨g,0,none⟩ else⟨g,(i+1)*28,none⟩)) (q -i) (cap -(i+1))]).run Tryz.prog W=.ok (.slice (some ⟨g,0,none⟩) q cap) (W.setRow g R1):=by
  intro W hW ty;have hq:i+(q -i)=q:=by omega
  have hr:=run_append_room (P:=Tryz.prog) W 22 ty 32 i0 Tryz.underlying22 hi0 g i cap cur ((hW g).trans hgw) (if cap=i+1 then⟨g,0,none⟩ else⟨g,(i+1)*28,none⟩) (q -i) (cap -(i+1)) news (by rw[hz1];exact hNl) (fun j u hj=>?_) (fun u hu=>h1 u (List.mem_of_mem_drop (by rw[hN];exact hu))) (by omega) (by rw[hz1,hNl,hcs];omega)
  ·rw[hq,hz1,hR1] at hr
   exact hr
  ·have hjl:j<news.length:=by
    rcases Nat.lt_or_ge j news.length with k|k
    ·exact k
    ·rw[List.getElem?_eq_none k] at hj;cases hj
   rw[if_neg (by omega)];rw[←hN,List.getElem?_drop] at hj;have hc:=h.cells (g:=g) rfl _ u hj;rw[show(⟨g,(i+1)*28,none⟩:Addr).add j=(⟨g,0,none⟩:Addr).add ((i+1)*28+j) by simp[Addr.add_lit]];exact(World.cell?_of_block (hW _)).trans hc
 have hk1:((i:Int)+1≤((q+1:Nat):Int)):=by omega
 have hk2:(((q+1:Nat):Int)≤(cap:Int)):=by omega
 have hk3:((i:Int)≤(i:Int)+1):=by omega
 have hk4:(0:Int)≤(i:Int)+1:=by omega
 have hk5:((i:Int)==(i:Int)+1)=false:=aE (by omega);obtain⟨HX,HR⟩:=Cg (show _∧_∧_ from⟨hR1s,hR1t,hgw⟩) hm;clear h hcs htake hlen hMs hcl hN hNl hR1 hR1s hR1t hgw h1 hm
 go_enter Tryz.func67,Tryz.ntmps67
 go_upto_region 5 with fail
 refine hg (fun _=>True) ?_;intro w8 bw hsz hsame;have T:=trivial;refine hu 0 (.slice (some ⟨g,0,none⟩) (q+1) cap) rfl T ?_;refine hu 1 (.int .i64 (i:Int)) rfl T ?_;refine hv 2 (.slice (some ⟨g,0,none⟩) i cap) rfl T (fun w' _=>A3 rfl rfl rfl rfl (vc g (q+1) cap i w' (by omega))) ?_;refine hu 3 (.slice (some ⟨g,0,none⟩) (q+1) cap) rfl T ?_;refine hu 4 (.int .i64 ((i:Int)+1)) rfl T ?_;refine hv 5 (.slice (some (if cap=i+1 then⟨g,0,none⟩ else⟨g,(i+1)*28,none⟩)) (q -i) (cap -(i+1))) rfl T (fun w' _=>A3 rfl rfl rfl rfl (by have:=ve g (q+1) cap (i+1) w' (by omega) (by omega);rw[Nat.add_sub_add_right] at this;exact this)) ?_;have hrun:=hap w8 hsame;clear hap;generalize(if cap=i+1 then(⟨g,0,none⟩:Addr) else⟨g,(i+1)*28,none⟩)=ad at hrun⊢;refine uC 6 rfl fun K hK=>Dt (.tmp 22) (.tmp 25) rfl rfl rfl hrun (hK _ _ T ?_)
 clear hK K;have R9:Hc (w8.setRow g R1) g R1 32:=setRow_heap w8 g _ R1 _ _ ((hsame g).trans HX.out.2.2);have k9:Kb (fun j=>j=g) w (w8.setRow g R1):=⟨bw.os,bw.tape,bw.output,by simp[World.setRow];omega,fun j hj hn=>(setRow_other w8 g j R1 hn).trans (hsame j)⟩;refine oS 7 (w8.setRow g R1) rfl T ?_;clear hrun T bw hsz hsame;generalize w8.setRow g R1=w9 at R9 k9⊢;obtain⟨Z,hZ,hcl⟩:=CG g (q*28) (cap -q) R1 w9 R9 (by rw[HX.out.1];omega);have hq1:¬(cap=q):=by omega
 have hq2:¬((cap:Int)=(q:Int)):=by omega
 have hq3:q+1 -q=1:=by omega
 have hq4:(q:Int)≤(q:Int)+1:=by omega
 simp only[Exit.then];refine‹∀(a:Act) (w:World),Code.wp _ _ _ a w→_› _ _ ?_
 go_wp2_with fail
 go_ret
 have hl1:R1.toList.length=cap*28:=by simpa using HX.out.1
 have hlq:(R1.toList.take (q*28)).length=q*28:=by rw[List.length_take];omega
 refine⟨rfl,⟨by rw[←HX.out.2.1];exact hlq,.inr ⟨g,cap,_,rfl,Nat.zero_le _,setRow_heap w9 g _ _ _ _ R9,by omega,HR.out,?_,?_⟩⟩,k9.row (.inl rfl) _⟩
 ·rw[List.size_toArray,xn,xn,List.length_drop,hlq,hZ,hl1];omega
 ·simp only[]
  rw[List.take_left' hlq];exact HX.out.2.1
theorem ie:∀(Ms:List Mg) (i j:Nat) (m:Mg),Ms[i]?=some m→j<28→(cC Ms)[i*28+j]?=m.row.toList[j]?
 |[],i,j,m,h,_=>by simp at h
 |a::r,0,j,m,h,hj=>by
  simp at h
  subst h;have h2:cC (a::r)=a.row.toList++cC r:=rfl;have hl:a.row.toList.length=28:=rfl;rw[h2,Nat.zero_mul,Nat.zero_add,List.getElem?_append_left (by omega)]
 |a::r,i+1,j,m,h,hj=>by
  have ih:=ie r i j m (by simpa using h) hj;have h2:cC (a::r)=a.row.toList++cC r:=rfl;have hl:a.row.toList.length=28:=rfl;rw[h2,List.getElem?_append_right (by omega),hl,show(i+1)*28+j -28=i*28+j by omega];exact ih
theorem pk{P:Nat→Prop}{w:World}:∀{Ms:List Mg} {ys:List (Mg×Ls)},eq P w Ms ys→∀u∈cC Ms,u.oneCell'=true
 |[],_,_,u,hu=>by simp[cC] at hu
 |m::r,y::ys,h,u,hu=>by
  have h2:cC (m::r)=m.row.toList++cC r:=rfl;rw[h2,List.mem_append] at hu;rcases hu with hu|hu
  ·exact(Array.all_eq_true_iff_forall_mem.1 h.1.2.one) u (by simpa using hu)
  ·exact pk h.2 u hu
 |_::_,[],h,_,_=>h.elim
theorem CnB.del{P X:Nat→Prop}{C:Nat}{ms:List (Mg×Ls)}{ids:List Int}{cur:Option (Int×Int)}{out:List UInt8}{iv cv bp bv:Value}{Ms:List Mg}{w w4:World}{g q cap i:Nat}(h:CnB P X C ms ids cur out (.slice (some ⟨g,0,none⟩) (q+1) cap) iv cv bp bv Ms w)
  {R:Array Value} (hC:Hc w C R 62) (hi:i≤q)
  (hown:w4.ownsRow 0 32 28 (.slice (some ⟨g,0,none⟩) q cap) q (cC (Ms.eraseIdx i))) (hk:∀j,j≠g→j<w.heap.size→w4.heap[j]?=w.heap[j]?) (hs:w.heap.size≤w4.heap.size):
  CnB P X C (ms.eraseIdx i) ids cur out (.slice (some ⟨g,0,none⟩) q cap) iv cv bp bv (Ms.eraseIdx i) w4:=by
 have K:=h.parts (P':=P) (X':=X) (Y:=fun j=>j=g) (w':=w4) hC (fun j _ h2 h3 h4=>⟨hk j h2 h4,h3,Iff.rfl⟩) (fun j e=>by rw[e];exact h.xw g rfl);have k2:=K.im fun j hj e=>h.wi (g:=j) (by rw[e];rfl) hj
 have k3:=K.bw fun j hj e=>h.wb (g:=j) (by rw[e];rfl) hj
 have hl:ms.length=q+1:=by
  rcases h.own.2 with⟨hv,_⟩|⟨g',cap',x,hv,_⟩
  ·cases hv
  ·injection hv with _ e1 _
   exact e1.symm
 have hl2:(ms.eraseIdx i).length=q:=by rw[List.length_eraseIdx_of_lt (by omega)];omega
 exact⟨by rw[hl2];exact hown,K.msg.erase i,k2.1,h.nd,K.cu,h.bq,k3.1,h.xw,k2.2,k3.2,h.xC,h.xP,fun j q=>Nat.lt_of_lt_of_le (h.xl j q) hs⟩
theorem gx{α β:Type}(f:α→β):∀(l:List α) (i:Nat),(l.eraseIdx i).map f=(l.map f).eraseIdx i
 |[],_=>by simp
 |_::_,0=>rfl
 |_::l,i+1=>by simp[gx f l i]
theorem C2{w:World}{r c i:Nat}{es:Array MapEntry}{ids:List Int}{k:Int}(hb:w.heap[r]?=some (.map es c))(he:es.toList.map (fun e=>(e.key,e.val))=ids.map (fun k=>(Value.int .i64 k,Value.agg #[])))(hnd:ids.Nodup)(hi:ids[i]?=some k)(ty:TypeId):
  (Builtin.delete_ #[55,3] ty #[.map (some r),.int .i64 k]).run Tryz.prog w=.ok (.tuple #[]) {w with heap:=w.heap.setIfInBounds r (.map (es.eraseIdxIfInBounds i) c)}:=by
 have hkey:∀j:Int,MapKept.IsKey (.int .i64) (.int .i64 j):=fun j=>by simp[MapKept.IsKey]
 have hk:Tryz.prog.underlying 3=some (.int .i64):=by kernel_rfl
 have hc:(Instr.checkKey es.isEmpty 10000 3 (.int .i64 k)).run Tryz.prog w=.ok () w:=MapKept.run_checkKey (k:=.int .i64 k) hk (hkey k) es.isEmpty 9999;have hf:∃v,Instr.findNow (.int .i64) (.int .i64 k) es.toList 0=some (some (i,v)):=by
  rcases MapKept.findNow_spec (hkey k) es.toList 0 (fun x hx=>by obtain⟨k',_,e,_⟩:=jp he hx;rw[e];exact hkey k') with⟨_,h2⟩|⟨j,e,h1,h2,h3⟩
  ·obtain⟨x,hx,e⟩:=A2 he (List.mem_of_getElem? hi)
   exact absurd e (h2 x hx)
  ·refine⟨e.val,?_⟩
   rw[h1,Nat.zero_add];have hj:ids[j]?=some k:=by
    have q:(es.toList.map (fun e=>(e.key,e.val)))[j]?=some (e.key,e.val):=by rw[List.getElem?_map,h2];rfl
    rw[he,List.getElem?_map] at q;obtain⟨k',hk',e'⟩:=aV.1 q;have:=congrArg Prod.fst e';simp only[h3] at this;cases this;exact hk'
   have hjl:=(List.getElem?_eq_some_iff.1 hj).1;rw[(List.getElem?_inj hjl hnd).1 (hj.trans hi.symm)]
 obtain⟨v,hf⟩:=hf
 simp[Builtin.delete_,run_underlying (show Tryz.prog.underlying 55=some (.map 3 138) by kernel_rfl),MapKept.run_getObj_map hb,hc,MapKept.run_findKey hk hf,MapKept.run_setObj_map _ hb,Result.andThen]
theorem Dm{es:Array MapEntry}{ids:List Int}(he:es.toList.map (fun e=>(e.key,e.val))=ids.map (fun k=>(Value.int .i64 k,Value.agg #[]))){i:Nat}(hi:i<ids.length):(es.eraseIdxIfInBounds i).toList.map (fun e=>(e.key,e.val))=(ids.eraseIdx i).map (fun k=>(Value.int .i64 k,Value.agg #[])):=by
 have hl:es.size=ids.length:=by have:=congrArg List.length he;simpa using this
 rw[gx,←he,←gx]
 congr 1
 simp[Array.eraseIdxIfInBounds,hl,hi]
theorem Du{P:Program}{o:Oper}{a:Act}{K:Act→World→Prop}{Q:Exit→Act→World→Prop}{w w':World}(s x:Operand){t u:TypeId}{v y r:Value}(ho:o.op=.call {callee:=.builtin .delete,args:=#[s,x],argTypes:=#[t,u]})(hs:a.eval s=v)(hx:a.eval x=y)
  (hr:∀ty,(Builtin.delete_ #[t,u] ty #[v,y]).run P w=.ok r w') (h:K (a.put o.dst r) w'):o.wp P a w K Q:=by
 unfold Oper.wp execOp;simp only[ho,resolve,invoke,builtin,Sem.run_bind,Sem.run_pure,Result.andThen_ok,List.map_toArray,List.map_cons,List.map_nil,hs,hx,hr];exact h
theorem sA(P X:Nat→Prop)(C:Nat)(s:Cs)(i:Nat)(y:Mg×Ls)(w:World)(h:dc P X C s w)(hy:s.ms[i]?=some y)(hlen:s.ms.length≤1000):
  Calls Tryz.prog 40 #[.pointer (some ⟨C,0,none⟩),.int .i64 (i:Int)] w fun e w'=>(∃m:Mg,e=.returned (.agg m.row)∧m.pl=y.1∧LsP (fun g=>P g∧¬X g) w' m y.2)∧dc P X C {s with ms:=s.ms.eraseIdx i} w'∧Kb X w w':=by
 obtain⟨wv,iv,cv,bp,bv,Ms,hr,hb⟩:=h;obtain⟨m,hMi,hpl,hls⟩:=hb.msg.get hy;have hil:=(List.getElem?_eq_some_iff.1 hy).1;obtain⟨q,hq⟩:∃q,s.ms.length=q+1:=⟨s.ms.length -1,by omega⟩;obtain⟨g,cap,rfl⟩:∃g cap,wv=.slice (some ⟨g,0,none⟩) (q+1) cap:=by
  obtain⟨g,cap,e,_⟩:=hb.own.form (by omega);exact⟨g,cap,by rw[e,hq]⟩
 have hiq:i≤q:=by omega
 have hkey:s.ids[i]?=some y.1.id:=by show(s.ms.map (·.1.id))[i]?=_;rw[List.getElem?_map,hy];rfl
 obtain⟨r,es,c,rfl,hri,he⟩:∃r es c,iv=.map (some r)∧w.heap[r]?=some (.map es c)∧es.toList.map (fun e=>(e.key,e.val))=s.ids.map (fun k=>(Value.int .i64 k,Value.agg #[])):=by
  rcases hb.im with⟨_,h0⟩|h
  ·rw[h0] at hkey;cases hkey
  ·exact h
 have hid:m.id=y.1.id:=by rw[←hpl];rfl
 have uC:=pk hb.msg;replace hb:=hb.kept hr (P':=fun g=>P g∧g<w.heap.size) (fun g _ hp hl=>⟨rfl,⟨hp,hl⟩,Iff.rfl⟩) hb.xC (fun g hg=>⟨hb.xP g hg,hb.xl g hg⟩) hb.xl;have hrange:∀W:World,W.ownsRow 0 32 28 (.slice (some ⟨g,0,none⟩) (q+1) cap) (q+1) (cC Ms)→W.rangeAt g (i*28) m.row.toList:=fun W hW j v hj=>by
  have hjl:j<28:=(List.getElem?_eq_some_iff.1 hj).1;have hc:=hW.cells (g:=g) rfl (i*28+j) v (by rw[ie Ms i j m hMi hjl];exact hj);rw[show(⟨g,0,none⟩:Addr).add (i*28+j)=⟨g,i*28+j,none⟩ by simp[Addr.add_lit]] at hc;exact hc
 obtain⟨D,hD⟩:=nmm m.row;have hD1:D.all (·.oneCell')=true:=by rw[←hD];exact hls.one
 have hD2:D.size=28:=by rw[←hD];rfl
 have hD0:D[0]?=some (.int .i64 y.1.id):=by rw[←hD,←hid];rfl
 rw[hD] at hrange;obtain⟨PR,hPR⟩:∃PR:Ending→World→Prop,PR=fun e w'=>(∃m:Mg,e=.returned (.agg m.row)∧m.pl=y.1∧LsP (fun g=>P g∧¬X g) w' m y.2)∧dc P X C {s with ms:=s.ms.eraseIdx i} w'∧Kb X w w':=⟨_,rfl⟩
 rw[←hPR];have HPR:=Lib.hid hPR;clear hPR;have b1:=alb w Zm 32;have x1:=alz w Zm 32;have r1:=bk b1 hr;have h1:=hb.bel hr b1;have hX1:∀j,X j→j<w.heap.size:=hb.xl;have hi1:=bk b1 hri;have hw1:=hb.own;obtain⟨HD,HD0,HD1,HD2,HE,HON,HKEY,HPL,HLS,HX1⟩:=Cz hD hD0 hD1 hD2 he uC hkey hpl hls hX1;have HNO:=Lib.hid hq;have hk1:((i:Int)<((q+1:Nat):Int)):=by omega
 have hk0:(0:Int)≤(i:Int):=by omega
 have hwr:IntKind.i64.wrap ((i:Int)+1)=(i:Int)+1:=by rw[aK];omega
 obtain⟨HB1,HI1,HSZ⟩:=Ch h1 hi1 (show(w.alloc (.cells Zm 32)).heap.size=w.heap.size+1 by simp);clear hr hb hMi hpl hls hid hD hD1 hD2 hD0 he uC hkey hil hri hq hy hX1 hi1 h1 hw1
 go_enter Tryz.func40,Tryz.ntmps40
 go_upto_region 1 with fail
 generalize w.alloc (.cells Zm 32)=w1 at b1 x1 r1 HB1 HI1 HSZ⊢;have c1:=cval r1 1 (.slice (some ⟨g,0,none⟩) (q+1) cap);have hrng:=hrange w1 (by have:=HB1.out.own;rw[HNO.out] at this;exact this);have y2:=alz w1 Zm 32;have e2:=setRow_heap (w1.alloc (.cells Zm 32)) w1.heap.size _ D _ _ y2;have g2:Bw w1 ((w1.alloc (.cells Zm 32)).setRow w1.heap.size D):=xo ((aA _ _).alloc (ah _) _) (ah _) D;obtain⟨Y2,E2,G2⟩:=Ch y2 e2 g2;clear y2 e2 g2 hrange
 go_wp2_with (first
  |(refine wpList_load_mid rfl 32 (.tmp 11) rfl g (i*28) (by rfl) D.toList _ hrng Tryz.underlying32 rfl (by rw[Array.length_toList,HD2.out];rfl) ?_;rw[Array.toArray_toList])
  |(refine stM (.tmp 5) (.tmp 12) D Y2.out HD2.out HD1.out ?_;generalize hw2:(w1.alloc (.cells Zm 32)).setRow w1.heap.size D=w2 at E2 G2⊢;clear hw2 Y2;have c1':=cval (bk G2.out r1) 1 (.slice (some ⟨g,0,none⟩) (q+1) cap)))
 have h2:=HB1.out.bel r1 G2.out;have r2:=bk G2.out r1;have x2:=bk G2.out x1;have i2:=bk G2.out HI1.out;have b2:=cM b1 G2.out;have hown2:w2.ownsRow 0 32 28 (.slice (some ⟨g,0,none⟩) (q+1) cap) (q+1) (cC Ms):=by have:=h2.own;rw[HNO.out] at this;exact this
 have kd:=CH g q cap i Ms w2 hown2 hiq HON.out;obtain⟨HB2,HM5⟩:=Cg h2 (ah w1.heap.size);clear HB1 HI1 G2 hown2 h2 c1 c1' hrng;refine ag kd ?_;rintro e w3 ⟨rfl,hown3,kb3⟩;have h2:=HB2.out;have hgX:=h2.xw g rfl;have hgl:=HX1.out g hgX;have hgC:C≠g:=fun e=>h2.neC r2 (g:=g) (.inl rfl) e.symm
 have hgr:r≠g:=fun e=>h2.wi (g:=g) rfl (by rw[←e];rfl)
 have hrl:=HX1.out r (h2.xi r rfl);have hrC:r≠C:=fun e=>h2.neC r2 (g:=r) (.inr (.inr rfl)) e
 have hCl:=HX1.out C h2.xC;have hw1s:=HSZ.out;have r3:=kb3.at r2 hgC;have x3:=kb3.at x2 (show ¬w.heap.size=g by omega);have e3:=kb3.at E2 (show ¬w1.heap.size=g by omega);have i3:=kb3.at i2 hgr;have h3:=h2.del r2 hiq hown3 (fun j hj hl=>kb3.block j hl hj) kb3.size;have k3:Kb X w w3:=(Kb.of b2).step kb3 fun j _ e=>by rw[e];exact hgX
 have z3:=aj r3 1;have c3:=cval r3 1 (.slice (some ⟨g,0,none⟩) (q+1) cap);have r4:=cq (i:=1) (u:=.slice (some ⟨g,0,none⟩) q cap) r3;have h4:=h3.put r3 1 (.slice (some ⟨g,0,none⟩) q cap);have x4:=(heap_setCell_other w3 ⟨C,1,none⟩ w.heap.size (.slice (some ⟨g,0,none⟩) q cap) (by show w.heap.size≠C;omega)).trans x3;have e4:=(heap_setCell_other w3 ⟨C,1,none⟩ w1.heap.size (.slice (some ⟨g,0,none⟩) q cap) (by show w1.heap.size≠C;omega)).trans e3;have i4:=(heap_setCell_other w3 ⟨C,1,none⟩ r (.slice (some ⟨g,0,none⟩) q cap) hrC).trans i3;have k4:Kb X w (w3.setCell ⟨C,1,none⟩ (.slice (some ⟨g,0,none⟩) q cap)):=k3.set (.inl h2.xC) _;obtain⟨R4,H4,X4,E4,I4,K4⟩:=Cy r4 h4 x4 e4 i4 k4;clear r4 h4 x4 e4 i4 k4 k3 h3 i3 e3 x3 kd hown3 kb3 b2 i2 x2 E2 h2 HB2 r2;have hFM:w1.heap.size≠C∧w1.heap.size≠r∧w.heap.size≠C∧w.heap.size≠r:=⟨by omega,by omega,by omega,by omega⟩;have HFM:=Lib.hid hFM;clear hFM hrl hCl hgl hgX hgC hgr hw1s HSZ HM5
 go_upto_region 3 with fail
 generalize w3.setCell ⟨C,1,none⟩ (.slice (some ⟨g,0,none⟩) q cap)=w4 at R4 H4 X4 E4 I4 K4⊢;clear z3 r3 c3;generalize w1.heap.size=F at E4 HFM⊢;refine hg (fun w'=>w'.cell? ⟨C,2,none⟩=some (.map (some r))∧w'.cell? ⟨F,0,none⟩=some (.int .i64 y.1.id)) ?_;intro w5 bw hsz hsame;have T:w5.cell? ⟨C,2,none⟩=some (.map (some r))∧w5.cell? ⟨F,0,none⟩=some (.int .i64 y.1.id):=⟨(aq ((hsame C).trans R4.out) 2).trans rfl,(aq ((hsame F).trans E4.out) 0).trans HD0.out⟩;refine hu 0 (.pointer (some ⟨C,0,none⟩)) rfl T ?_;refine hu 1 (.pointer (some ⟨C,0,none⟩)) rfl T ?_;refine hu 2 (.pointer (some ⟨C,2,none⟩)) rfl T ?_;refine hl 3 ⟨C,2,none⟩ (.map (some r)) rfl T (fun _ q=>q.1) ?_;refine hu 4 (.pointer (some ⟨F,0,none⟩)) rfl T ?_;refine hl 5 ⟨F,0,none⟩ (.int .i64 y.1.id) rfl T (fun _ q=>q.2) ?_;have i5:w5.heap[r]?=some (.map es c):=(hsame r).trans I4.out;have hrun:=fun ty=>C2 i5 HE.out H4.out.nd HKEY.out ty
 have hot:∀j,j≠r→({w5 with heap:=w5.heap.setIfInBounds r (.map (es.eraseIdxIfInBounds i) c)}:World).heap[j]?=w4.heap[j]?:=fun j hj=>(show _=w5.heap[j]? by simp[Ne.symm hj]).trans (hsame j)
 have i6:({w5 with heap:=w5.heap.setIfInBounds r (.map (es.eraseIdxIfInBounds i) c)}:World).heap[r]?=some (.map (es.eraseIdxIfInBounds i) c):=by have:=(gl i5);simp[this]
 have hs6:({w5 with heap:=w5.heap.setIfInBounds r (.map (es.eraseIdxIfInBounds i) c)}:World).heap.size=w4.heap.size:=by simp[hsz]
 have k6:Kb X w4 {w5 with heap:=w5.heap.setIfInBounds r (.map (es.eraseIdxIfInBounds i) c)}:=⟨bw.os,bw.tape,bw.output,by rw[hs6];exact ah _,fun j _ hn=>hot j fun e=>hn (by rw[e];exact H4.out.xi r rfl)⟩;generalize({w5 with heap:=w5.heap.setIfInBounds r (.map (es.eraseIdxIfInBounds i) c)}:World)=w6 at hrun hot i6 hs6 k6;have r6:=(hot C hrC.symm).trans R4.out;have e6:=(hot F HFM.out.2.1).trans E4.out;have x6:=(hot w.heap.size HFM.out.2.2.2).trans X4.out;have T6:w6.cell? ⟨C,2,none⟩=some (.map (some r))∧w6.cell? ⟨F,0,none⟩=some (.int .i64 y.1.id):=⟨(aq r6 2).trans rfl,(aq e6 0).trans HD0.out⟩;have h6:=H4.out.lay R4.out (ids':=s.ids.eraseIdx i) (.inr ⟨r,_,c,rfl,i6,Dm HE.out (List.getElem?_eq_some_iff.1 HKEY.out).1⟩) (H4.out.nd.eraseIdx i) hot hs6;obtain⟨K6,H6,R6,E6,X6⟩:=Cj (K4.out.trans k6) h6 r6 e6 x6;clear hot i6 hs6 k6 r6 e6 x6 h6 R4 H4 X4 E4 I4 K4 i5 bw hsz hsame;refine uC 6 rfl fun K hK=>Du (.tmp 27) (.tmp 29) rfl rfl rfl hrun (hK _ _ T6 (xk (by kernel_rfl) ?_ _))
 clear hrun T T6 hK K;simp only[Exit.then];refine‹∀(a:Act) (w:World),Code.wp _ _ _ a w→_› _ _ ?_;have k7:Kb X w (w6.setRow w.heap.size D):=K6.out.row (.inr (ah _)) D;have r7:=(setRow_other w6 w.heap.size C D HFM.out.2.2.1.symm).trans R6.out;have t7:=setRow_heap w6 w.heap.size _ D _ _ X6.out;have h7:CnB (fun g=>P g∧g<w.heap.size) X C (s.ms.eraseIdx i) (s.ids.eraseIdx i) s.cur s.out (.slice (some ⟨g,0,none⟩) q cap) (.map (some r)) cv bp bv (Ms.eraseIdx i) (w6.setRow w.heap.size D):=
  H6.out.kept R6.out (fun j _ hp hl=>⟨setRow_other w6 w.heap.size j D (fun e=>by have:=hp.2;omega),hp,Iff.rfl⟩) H6.out.xC H6.out.xP (fun j hj=>by simpa[World.setRow] using H6.out.xl j hj)
 obtain⟨K7,R7,T7,H7⟩:=Ci k7 r7 t7 h7;clear k7 r7 t7 h7 H6 R6 K6 HKEY HE HON
 go_wp2_with (first
  |(refine ldM (.tmp 5) E6.out HD2.out ?_)
  |(refine stM (.tmp 4) (.tmp 30) D X6.out HD2.out HD1.out ?_;generalize w6.setRow w.heap.size D=w7 at K7 R7 T7 H7⊢))
 have FIN:PR (.returned (.agg D)) w7:=by
  rw[HPR.out];refine⟨⟨m,by rw[HD.out],HPL.out,HLS.out.kept fun j hj hl=>⟨K7.out.block j hl hj.2,hj⟩⟩,⟨_,_,_,_,_,Ms.eraseIdx i,R7.out,?_⟩,K7.out⟩;have:=H7.out.kept R7.out (P':=P) (X':=X) (fun g _ hp _=>⟨rfl,hp.1,Iff.rfl⟩) H7.out.xC (fun g hg=>(H7.out.xP g hg).1) H7.out.xl
  rwa [show s.ids.eraseIdx i=Cs.ids {s with ms:=s.ms.eraseIdx i} from(gx _ _ _).symm] at this
 refine aH (v:=.agg D) ?_ ?_ FIN
 ·have hr:=rlM T7.out HD2.out
  simp[results,Act.put,Tryz.f40]
  exact hr
 ·rfl
theorem CI(A:Array Value)(k:Int)(B:Nat)(mid:Int)(w:World)(hA0:A[0]?=some (.int .i64 mid))(hB:w.cell? ⟨B,0,none⟩=some (.int .i64 k)):
  Cr 105 #[.agg A,.pointer (some ⟨B,0,none⟩)] w (.bool (mid==k)):=by
 have b1:=alb w A 32;have m1:=alz w A 32;have c0:(w.alloc (.cells A 32)).cell? ⟨w.heap.size,0,none⟩=some (.int .i64 mid):=(aq m1 0).trans hA0;have cB:=(b1.cell (bj hB)).trans hB;clear hA0 hB m1
 go_enter Tryz.func105,Tryz.ntmps105
 go_upto_region 1 with fail
 generalize w.alloc (.cells A 32)=w1 at b1 c0 cB⊢
 go_wp2_with fail
 go_ret
 exact⟨rfl,b1⟩
def Dy(w:World)(ids:List Int)(k:Int)(v:Value)(wr:World):Prop:=∃j:Nat,j≤ids.length∧v=.int .i64 (j:Int)∧(ids.take j).contains k=false∧Bw w wr
def ua(ids:List Int)(k:Int)(r:Int):Prop:=(r=-1∧ids.contains k=false)∨∃j:Nat,r=j∧ids[j]?=some k
theorem s9(P:Nat→Prop)(v:Value)(Ms:List Mg)(ms:List (Mg×Ls))(k:Int)(B:Nat)(w:World)(h:w.ownsRow 0 32 28 v ms.length (cC Ms))(hm:eq P w Ms ms)(hl:ms.length≤1000)(hB:w.cell? ⟨B,0,none⟩=some (.int .i64 k)):
  Calls Tryz.prog 104 #[v,.func (.func 105) #[] #[.pointer (some ⟨B,0,none⟩)]] w fun e w'=>(∃r,e=.returned (.int .i64 r)∧ua (ms.map (·.1.id)) k r)∧Bw w w':=by
 obtain⟨ids,hI⟩:=nmm (ms.map (·.1.id));obtain⟨n,hn⟩:=nmm ms.length;have hlen:ids.length=n:=by rw[←hI,List.length_map,hn]
 obtain⟨a,cap,rfl⟩:∃a cap,v=.slice a n cap:=by
  rcases h.2 with⟨hv,h0⟩|⟨g,cap,cur,hv,_⟩
  ·exact⟨none,0,by rw[hv,←hn,h0]⟩
  ·exact⟨_,cap,by rw[hv,hn]⟩
 rw[hI];rw[hn] at h hl;obtain⟨HH,HM,HI,HLN⟩:=Ci h hm hI hlen;clear h hm hI hn hlen
 go_enter Tryz.func104,Tryz.ntmps104
 go_wp2_with fail
 go_loopw [8] (fun v wr=>Dy w ids k v wr) (fun v _=>n -(RowKit.intOf v).toNat)
 case atStart=>exact⟨0,Nat.zero_le _,rfl,rfl,aA _ _⟩
 case round=>
  obtain⟨j,hj,rfl,htk,hbe⟩:=hrel;rw[HLN.out] at hj
  by_cases hlt:j<n
  ·have g1:decide ((j:Int)<(n:Int))=true:=aC (by omega)
   obtain⟨g,cap',e0,_⟩:=HH.out.form (by omega)
   injection e0 with ea _ ec
   subst ea;subst ec
   have hjm:j<ms.length:=by have:=HI.out;have h2:=HLN.out;rw[←this,List.length_map] at h2;omega
   obtain⟨y,hy⟩:∃y,ms[j]?=some y:=⟨_,aM hjm⟩;obtain⟨m,hMi,hpl,hls⟩:=HM.out.get hy;have hkey:ids[j]?=some y.1.id:=by rw[←HI.out,List.getElem?_map,hy];rfl
   have hown:wr.ownsRow 0 32 28 (.slice (some ⟨g,0,none⟩) n cap) n (cC Ms):=gM HH.out fun b hb=>hbe.block b (HH.out.lt b hb).2
   have hrng:wr.rangeAt g (j*28) m.row.toList:=fun i v hi=>by
    have hil:i<28:=(List.getElem?_eq_some_iff.1 hi).1;have hc:=hown.cells (g:=g) rfl (j*28+i) v (by rw[ie Ms j i m hMi hil];exact hi);rw[show(⟨g,0,none⟩:Addr).add (j*28+i)=⟨g,j*28+i,none⟩ by simp[Addr.add_lit]] at hc;exact hc
   obtain⟨D,hD⟩:=nmm m.row;have hD2:D.size=28:=by rw[←hD];rfl
   have hD0:D[0]?=some (.int .i64 y.1.id):=by rw[←hD,←hpl];rfl
   rw[hD] at hrng;have kc:=CI D k B y.1.id wr hD0 ((hbe.cell (bj hB)).trans hB);obtain⟨b,hb⟩:=nmm (y.1.id==k);rw[hb] at kc;obtain⟨HD2,HB,HKEY,HTK,HRN⟩:=Cj hD2 hb hkey htk hrng;have hk1:((j:Int)<(n:Int)):=by omega
   clear hD hD2 hD0 hpl hls hMi hy hjm hown htk hb hkey hrng
   go_wp2_with (first|(refine wpList_load_mid rfl 32 (.tmp 14) rfl g (j*28) (by rfl) D.toList _ HRN.out Tryz.underlying32 rfl (by rw[Array.length_toList,HD2.out];rfl) ?_;rw[Array.toArray_toList]))
   refine ag kc ?_;rintro e w2 ⟨rfl,hb2⟩;have hbe2:=cM hbe hb2;clear kc hb2 hbe HRN;cases b
   ·have hne:y.1.id≠k:=fun e=>by have:=HB.out;rw[e,beq_self_eq_true] at this;cases this
    have TK:(ids.take (j+1)).contains k=false:=by
     rw[List.take_add_one,HKEY.out];cases hc:(ids.take j++(some y.1.id).toList).contains k with
     |false=>rfl
     |true=>
      rcases List.mem_append.1 (List.contains_iff_mem.1 hc) with q|q
      ·have:=HTK.out;rw[List.contains_iff_mem.2 q] at this;cases this
      ·simp at q;exact absurd q.symm hne
    have HTK2:=hid TK;clear TK hne
    go_wp2_with fail
    go_roundw
    case rel=>exact⟨j+1,by rw[HLN.out];omega,by go_num,HTK2.out,hbe2⟩
    case measure=>simp[RowKit.intOf];omega
   ·have e0:y.1.id=k:=by simpa using HB.out
    have FIN:ua ids k (j:Int):=.inr ⟨j,rfl,by rw[HKEY.out,e0]⟩;have HF:=hid FIN;clear FIN e0
    go_wp2_with fail
    go_ret
    exact⟨⟨_,rfl,HF.out⟩,hbe2⟩
  ·obtain rfl:j=n:=by omega
   have g1:decide ((j:Int)<(j:Int))=false:=an (by omega);have FIN:ua ids k (-1):=.inl ⟨rfl,by rw[←HLN.out,List.take_length] at htk;exact htk⟩;have HF:=hid FIN;clear FIN htk
   go_wp2_with fail
   go_ret
   exact⟨⟨_,rfl,HF.out⟩,hbe⟩
theorem CJ(P X:Nat→Prop)(C:Nat)(s:Cs)(k:Int)(w:World)(h:dc P X C s w)(hlen:s.ms.length≤1000):
  Calls Tryz.prog 69 #[.pointer (some ⟨C,0,none⟩),.int .i64 k] w fun e w'=>(∃r,e=.returned (.int .i64 r)∧ua s.ids k r)∧Bw w w':=by
 obtain⟨wv,iv,cv,bp,bv,Ms,hr,hb⟩:=h;have b1:=alb w #[.int .i64 k] 3;have m1:=alz w #[.int .i64 k] 3;have h1:=hb.bel hr b1;have c1:=(b1.cell (bj (dM hr).2.1)).trans (dM hr).2.1;have kx:=s9 _ wv Ms s.ms k w.heap.size _ h1.own h1.msg hlen ((aq m1 0).trans rfl);have hmf:∀(fn:Fn) (first cap:Array Value) (w:World),(Instr.makeFunc fn first cap).run Tryz.prog w=.ok (.func fn first cap) w:=fun _ _ _ _=>rfl
 clear hr hb m1 h1 hlen
 go_enter Tryz.func69,Tryz.ntmps69
 go_upto_region 1 with fail
 generalize w.alloc (.cells #[.int .i64 k] 3)=w1 at b1 c1 kx⊢
 go_wp2_with fail
 refine ag kx ?_;rintro e w2 ⟨⟨r,rfl,hA⟩,hb2⟩;have HA:=hid hA;have b2:=cM b1 hb2;clear kx hA hb2 b1
 go_wp2_with fail
 go_ret
 exact⟨⟨_,rfl,HA.out⟩,b2⟩
def Cs.strike(s:Cs)(k:Int):Cs:={s with ms:=s.ms.filter fun y=>y.1.id !=k}
def Cs.comes(s:Cs)(y:Mg×Ls):Cs:=if y.1.op=2 then s.shut else if y.1.op=16 then s.strike y.1.target else{s with ms:=s.ms++[y]}
theorem DU{α:Type}(f:α→Int)(k:Int):∀(l:List α) (j:Nat),(l.map f).Nodup→(l.map f)[j]?=some k→l.eraseIdx j=l.filter fun y=>f y !=k
 |[],j,_,h=>by simp at h
 |a::l,0,hn,h=>by
  have e:f a=k:=by simpa using h
  have hn':=List.nodup_cons.1 hn;rw[List.filter_cons_of_neg (by simp[e])];show l=_
  symm
  rw[List.filter_eq_self];intro b hb;have:f b≠k:=fun q=>hn'.1 (by rw[e,←q];exact List.mem_map_of_mem hb)
  simpa using this
 |a::l,j+1,hn,h=>by
  have hn':=List.nodup_cons.1 hn;have hk:(l.map f)[j]?=some k:=by simpa using h
  have hne:f a≠k:=fun q=>hn'.1 (by rw[q];exact List.mem_of_getElem? hk)
  rw[List.filter_cons_of_pos (by simpa using hne),List.eraseIdx_cons_succ,DU f k l j hn'.2 hk]
theorem A1{α:Type}(f:α→Int)(k:Int)(l:List α)(h:(l.map f).contains k=false):(l.filter fun y=>f y !=k)=l:=by
 rw[List.filter_eq_self];intro b hb;have:f b≠k:=fun q=>by
  rw[List.contains_iff_mem.2 (by rw[←q];exact List.mem_map_of_mem hb)] at h;cases h
 simpa using this
theorem CK(P X:Nat→Prop)(C:Nat)(s:Cs)(m:Mg)(y:Mg×Ls)(w:World)(h:dc P X C s w)(hm:m.pl=y.1)(hl:LsP (fun g=>P g∧¬X g) w m y.2)(hn:y.1.op≠2→y.1.op≠16→s.ids.contains y.1.id=false)(hlen:s.ms.length≤1000):
  Calls Tryz.prog 60 #[.pointer (some ⟨C,0,none⟩),.agg m.row] w fun e w'=>e=.returned (.tuple #[])∧em P X C w (s.comes y) w':=by
 unfold Cs.comes
 by_cases h2:y.1.op=2
 ·rw[if_pos h2]
  have b1:=alb w m.row 32;have m1:=alz w m.row 32;have q1:(w.alloc (.cells m.row 32)).cell? ⟨w.heap.size,1,none⟩=some (.int .i64 2):=(aq m1 1).trans (by rw[←h2,←hm];rfl);have ks:=sa P X C s _ (h.bel b1);have hA:∃A,m.row=A:=⟨_,rfl⟩;obtain⟨A,hA⟩:=hA;rw[hA] at b1 q1 ks⊢;clear hA m1 h hm hl hn hlen h2
  go_enter Tryz.func60,Tryz.ntmps60
  go_upto_region 1 with fail
  generalize w.alloc (.cells A 32)=w1 at b1 q1 ks⊢
  go_wp2_with fail
  refine ag ks ?_;rintro e w2 ⟨rfl,hT⟩;have HT:=hid (em.trans (P:=P) (X:=X) ⟨Kb.of b1,fun _ _ q=>q,fun _ _ q=>q⟩ hT);clear ks hT b1 q1
  go_wp2_with fail
  first
   |refine bodyPost_end (results_none rfl _ _ _) rfl ?_
   |refine aH (results_none rfl _ _ _) rfl ?_
  exact⟨rfl,HT.out⟩
 ·rw[if_neg h2]
  by_cases h16:y.1.op=16
  ·rw[if_pos h16]
   have b1:=alb w m.row 32;have m1:=alz w m.row 32;have q1:(w.alloc (.cells m.row 32)).cell? ⟨w.heap.size,1,none⟩=some (.int .i64 16):=(aq m1 1).trans (by rw[←h16,←hm];rfl);have q23:(w.alloc (.cells m.row 32)).cell? ⟨w.heap.size,23,none⟩=some (.int .i64 y.1.target):=(aq m1 23).trans (by rw[←hm];rfl);have h1:=h.bel b1;have kp:=CJ P X C s y.1.target _ h1 hlen;obtain⟨A,hA⟩:=nmm m.row;rw[hA] at b1 q1 q23 kp h1⊢;have H1:=hid h1;obtain⟨S',hS'⟩:=nmm (s.strike y.1.target);rw[hS'];have HS:=hid hS';clear hA m1 h hm hl hn h2 h16 h1 hS'
   go_enter Tryz.func60,Tryz.ntmps60
   go_upto_region 1 with fail
   generalize w.alloc (.cells A 32)=w1 at b1 q1 q23 kp H1⊢
   go_wp2_with fail
   refine ag kp ?_;rintro e w2 ⟨⟨r,rfl,hA⟩,hb2⟩;have h2:=H1.out.bel hb2;have b2:=cM b1 hb2;clear kp hb2 b1 H1 q1 q23;rcases hA with⟨rfl,hc⟩|⟨j,rfl,hk⟩
   ·obtain rfl:S'=s:=by rw[←HS.out];unfold Cs.strike;rw[A1 _ _ _ hc]
    have HT:=hid (show em P X C w S' w2 from⟨P,X,h2,Kb.of b2,fun _ _ q=>q,fun _ _ q=>q⟩);clear hc HS h2 b2
    go_wp2_with fail
    first
     |refine bodyPost_end (results_none rfl _ _ _) rfl ?_
     |refine aH (results_none rfl _ _ _) rfl ?_
    exact⟨rfl,HT.out⟩
   ·have hnd:s.ids.Nodup:=by obtain⟨_,_,_,_,_,_,q⟩:=h2;exact q.b.nd
    obtain⟨z,hz⟩:∃z,s.ms[j]?=some z:=by
     have:=(List.getElem?_eq_some_iff.1 hk).1;exact⟨_,aM (by simpa[Cs.ids] using this)⟩
    have kd:=sA P X C s j z w2 h2 hz hlen;obtain rfl:S'={s with ms:=s.ms.eraseIdx j}:=by rw[←HS.out];unfold Cs.strike;rw[DU _ _ _ _ hnd hk]
    have g0:(0:Int)≤(j:Int):=by omega
    have HB:=hid b2;clear hk HS h2 hnd hz b2
    go_wp2_with fail
    refine ag kd ?_;rintro e w3 ⟨⟨m',rfl,_,_⟩,h3,k3⟩;have HT:=hid (show em P X C w {s with ms:=s.ms.eraseIdx j} w3 from⟨P,X,h3,(Kb.of HB.out).trans k3,fun _ _ q=>q,fun _ _ q=>q⟩);clear kd h3 k3 HB
    go_wp2_with fail
    first
     |refine bodyPost_end (results_none rfl _ _ _) rfl ?_
     |refine aH (results_none rfl _ _ _) rfl ?_
    exact⟨rfl,HT.out⟩
  ·rw[if_neg h16]
   exact CF P X C s m y w h hm hl (hn h2 h16) h2 h16 hlen
def gq(op:Int):Bool:=op==2||op==16
def Cs.badB(s:Cs)(y:Mg×Ls):Bool:=!fC.contains y.1.op||(!gq y.1.op&&(y.1.id==0||s.has y.1.id))
def Cs.cut:Nat→Cs→Cs
 |0,s=>s
 |n+1,s=>
  if s.cl=true∨16≤s.ms.length then s
  else if(eA s.inn).2=20∨((eA s.inn).2=0∧s.inn.length<(eA s.inn).1) then s
  else if(eA s.inn).2≠0 then s.gone
  else match dy (s.inn.take (eA s.inn).1) with
   | .error _=>s.gone
   | .ok y=>if s.badB y then s.gone else Cs.cut n ({s with inn:=s.inn.drop (eA s.inn).1}.comes y)
def MrQ(b:List UInt8)(w:World)(D:Array Value)(cd id op:Int)(w':World):Prop:=
 D[0]?=some (.int .i64 id)∧D[1]?=some (.int .i64 op)∧D.size=28∧D.all (·.oneCell')=true∧
  ((cd≠0∧op=0∧∃c,dy b=.error c)∨(cd=0∧∃(y:Mg×Ls) (m:Mg),dy b=.ok y∧D=m.row∧m.pl=y.1∧LsL w.heap.size w' m y.2∧id=y.1.id∧op=y.1.op))
theorem MrP.parts{b:List UInt8}{w w':World}{e:Ending}(h:MrP b w e w'):∃D cd id op,e=.returned (.tuple #[.agg D,.int .i64 cd])∧MrQ b w D cd id op w'∧Bw w w':=by
 obtain⟨h,hb⟩:=h;cases hr:dy b with
 |error c=>
  rw[hr] at h;exact⟨_,c,0,0,h,⟨rfl,rfl,rfl,by simp[Mg.row,Value.oneCell'],.inl ⟨lI hr,rfl,c,hr⟩⟩,hb⟩
 |ok y=>
  rw[hr] at h;obtain⟨m,he,hm,hl⟩:=h;exact⟨_,0,y.1.id,y.1.op,he,⟨by rw[←hm];rfl,by rw[←hm];rfl,rfl,hl.lsp.one,.inr ⟨rfl,y,m,hr,rfl,hm,hl,rfl,rfl⟩⟩,hb⟩
def pm(C:Nat)(w:World):Nat:=match w.cell? ⟨C,0,none⟩ with|some (.string b)=>b.size|_=>0
theorem vS{P X:Nat→Prop}{C:Nat}{s:Cs}{w:World}(h:dc P X C s w):pm C w=s.inn.length:=by
 obtain⟨wv,iv,cv,bp,bv,Ms,h,_⟩:=h;unfold pm;rw[(dM h).1];exact Lib.size_mk _
theorem C3(s:Cs)(y:Mg×Ls):(s.comes y).inn.length≤s.inn.length∧(s.comes y).ms.length≤s.ms.length+1∧(s.comes y).out=s.out:=by
 unfold Cs.comes
 split
 ·exact⟨Nat.zero_le _,Nat.zero_le _,rfl⟩
 ·split
  ·exact⟨ah _,Nat.le_succ_of_le (List.length_filter_le _ _),rfl⟩
  ·exact⟨ah _,by simp,rfl⟩
def Fp(P X:Nat→Prop)(C:Nat)(w:World)(ANS:Cs)(N:Nat)(wr:World):Prop:=
 ∃P' X' s n,dc P' X' C s wr∧Nx P X w P' X' wr∧s.inn.length<n∧s.inn.length≤N∧s.ms.length≤16∧s.out.length≤1099511627776∧Cs.cut n s=ANS
theorem wo(w0:World)(P X:Nat→Prop)(C:Nat)(s:Cs)(w:World)(h:dc P X C s w)(hH:Hm w0 X w)(hi:s.inn.length≤1000000000)(hm:s.ms.length≤16)(ho:s.out.length≤1099511627776):
  Calls Tryz.prog 35 #[.pointer (some ⟨C,0,none⟩)] w fun e w'=>e=.returned (.tuple #[])∧em P X C w (Cs.cut (s.inn.length+1) s) w':=by
 obtain⟨ANS,hA⟩:=nmm (Cs.cut (s.inn.length+1) s);rw[hA];generalize hPR:(em P X C w ANS:World→Prop)=PR;obtain⟨HPR,HH⟩:=Cg hPR hH;have REL:Fp P X C w ANS 1000000000 w:=⟨P,X,s,s.inn.length+1,h,Nx.refl _ _ _,by omega,hi,hm,ho,hA⟩;have HREL:=Lib.hid REL;clear hPR hH REL h hi hm ho hA
 go_enter Tryz.func35,Tryz.ntmps35
 go_wp2_with fail
 go_loopw [] (fun wr=>Fp P X C w ANS 1000000000 wr) (fun wr=>pm C wr)
 case atStart=>exact HREL.out
 case round=>
  obtain⟨P',X',⟨inn,ms,cur,out,cl⟩,n,hat,hnx,hn,hin,hms,hou,hcut⟩:=hrel;have hI:=vS hat;simp only at hn hin hms hou hI;have hHr:=HH.out.to hnx;obtain⟨wv,iv,cv,bp,bv,Ms,hrow,hb⟩:=hat;simp only at hrow hb;obtain⟨c0,c1,c2,c3,c8⟩:=dM hrow;obtain⟨nm,hnm⟩:=nmm ms.length;obtain⟨av,cap,rfl⟩:∃a cap,wv=.slice a nm cap:=by
   rcases hb.own.2 with⟨hv,h0⟩|⟨g,cap,x,hv,_⟩
   ·exact⟨none,0,by rw[hv,←hnm,h0]⟩
   ·exact⟨_,cap,by rw[hv,hnm]⟩
  obtain⟨n,rfl⟩:∃k,n=k+1:=⟨n -1,by omega⟩;unfold Cs.cut at hcut;simp only at hcut
  by_cases hst:cl=true∨16≤ms.length
  ·rw[if_pos hst] at hcut
   have FIN:PR wr:=by rw[←HPR.out,←hcut];exact⟨P',X',⟨_,_,_,_,_,_,hrow,hb⟩,hnx⟩
   have HF:=Lib.hid FIN;clear FIN hcut hnx hb hrow c2 c3 hI hHr;cases cl with
   |true=>
    go_wp2_with fail
    first
     |refine bodyPost_end (results_none rfl _ _ _) rfl ?_
     |refine aH (results_none rfl _ _ _) rfl ?_
    exact⟨rfl,HF.out⟩
   |false=>
    have hlt:decide ((nm:Int)<16)=false:=an (by
     rcases hst with q|q
     ·cases q
     ·omega)
    go_wp2_with fail
    first
     |refine bodyPost_end (results_none rfl _ _ _) rfl ?_
     |refine aH (results_none rfl _ _ _) rfl ?_
    exact⟨rfl,HF.out⟩
  ·rw[if_neg hst] at hcut
   obtain rfl:cl=false:=by cases cl with|false=>rfl|true=>exact absurd (.inl rfl) hst
   have hlt:decide ((nm:Int)<16)=true:=aC (by have:¬16≤ms.length:=fun q=>hst (.inr q);omega);have hns:nm<16:=by have:¬16≤ms.length:=fun q=>hst (.inr q);omega
   have kf:=CS inn hin wr;have hfge:(eA inn).2=0→2≤(eA inn).1:=fun q=>by have:=mh inn q;unfold eA;simp only;omega
   obtain⟨⟨k,c⟩,hF⟩:∃F,eA inn=F:=⟨_,rfl⟩;have HK6:Hid (k≤65536):=Lib.hid (by have:=jL inn;have e:=congrArg Prod.fst hF;unfold eA at e;simp only at e;omega);rw[hF] at hcut kf hfge;simp only at hcut kf hfge;have HO:Hid (CnO P' X' C ⟨inn,ms,cur,out,false⟩ (.slice av nm cap) iv cv bp bv Ms wr):=Lib.hid ⟨hrow,hb⟩;obtain⟨HCUT,HFG,HN,HIN,HI,HMS,HNX,HHR,HNM⟩:=CE hcut hfge hn hin hI hms hnx hHr hnm;clear hcut hfge hn hin hI hms hnx hHr hb hF hst hrow c2 c3
   go_wp2_with fail
   refine ag kf ?_;rintro e w2 ⟨rfl,hb2⟩;have h2:=HO.out.bel hb2;have n2:=HNX.out.bel hb2;have q2:=HHR.out.bels hb2;obtain⟨d0,d1,d2,d3,d8⟩:=dM h2.row;obtain⟨H2,N2,Q2⟩:=Ch h2 n2 q2;clear kf hb2 HO HNX HHR h2 n2 q2 c0 c1 c8 d2 d3 hns hnm
   by_cases hc20:c=20
   ·subst hc20
    have FIN:PR w2:=by rw[←HPR.out,←HCUT.out,if_pos (.inl rfl)];exact⟨P',X',H2.out.at,N2.out⟩
    have HF:=Lib.hid FIN;clear FIN HCUT
    go_wp2_with fail
    first
     |refine bodyPost_end (results_none rfl _ _ _) rfl ?_
     |refine aH (results_none rfl _ _ _) rfl ?_
    exact⟨rfl,HF.out⟩
   ·have e20:(c==20)=false:=aE hc20
    by_cases hc0:c=0
    ·subst hc0
     by_cases hk:inn.length<k
     ·have FIN:PR w2:=by rw[←HPR.out,←HCUT.out,if_pos (.inr ⟨rfl,hk⟩)];exact⟨P',X',H2.out.at,N2.out⟩
      have HF:=Lib.hid FIN;have hg:decide ((k:Int)>(inn.length:Int))=true:=aC (by omega);clear FIN HCUT
      go_wp2_with fail
      first
       |refine bodyPost_end (results_none rfl _ _ _) rfl ?_
       |refine aH (results_none rfl _ _ _) rfl ?_
      exact⟨rfl,HF.out⟩
     ·have hkl:k≤inn.length:=by omega
      have hg:decide ((k:Int)>(inn.length:Int))=false:=an (by omega);have hk1:(k:Int)≤(inn.length:Int):=by omega
      have hx:(⟨inn.toArray⟩:ByteArray).extract 0 k=⟨(inn.take k).toArray⟩:=by rw[Lib.extract_eq];simp
      have hy:(⟨inn.toArray⟩:ByteArray).extract k inn.length=⟨(inn.drop k).toArray⟩:=by rw[Lib.extract_eq];simp[List.take_of_length_le]
      have kr:=lG (inn.take k) (by rw[List.length_take];have:=HK6.out;omega) w2 Q2.out.now;have hk2:=HFG.out rfl;have HK:=Lib.hid hk;clear hk
      go_wp2_with fail
      refine ag kr ?_;rintro e w3 hP;obtain⟨D,cd,id,op,rfl,hQ,hb3⟩:=hP.parts;obtain⟨HQ,HD1,HD2⟩:=Ch hQ hQ.2.2.2.1 hQ.2.2.1;have h3:=H2.out.bel hb3;have n3:=N2.out.bel hb3;have q3:=Q2.out.bels hb3;have hXl:∀j,X' j→j<w2.heap.size:=H2.out.b.xl;have hs3:=hb3.size;have hCl:C<w2.heap.size:=(gl H2.out.row);have y3:=alz w3 Zm 32;have g3:Bw w3 ((w3.alloc (.cells Zm 32)).setRow w3.heap.size D):=xo ((aA _ _).alloc (ah _) _) (ah _) D;have e4:=setRow_heap (w3.alloc (.cells Zm 32)) w3.heap.size _ D _ _ y3;have h4:=h3.bel g3;have n4:=n3.bel g3;have q4:=q3.bels g3;obtain⟨Y3,E4,H4,N4,Q4,G3,HXL,HS3,HCL,HW2⟩:=Cz y3 e4 h4 n4 q4 g3 hXl hs3 hCl N2.out.kb.size;clear kr hP hQ hb3 h3 n3 q3 y3 g3 e4 h4 n4 q4 hXl hs3 hCl H2 N2 Q2 d0 d1 d8
      go_upto_region 8 with(refine stM (.tmp 4) (.tmp 54) D Y3.out HD2.out HD1.out ?_;generalize(w3.alloc (.cells Zm 32)).setRow w3.heap.size D=w4 at E4 H4 N4 Q4 G3⊢;obtain⟨d0,d1,d2,d3,d8⟩:=dM H4.out.row;have z0:=aj H4.out.row 0;clear d1 d2 d3 d8 Y3)
      obtain⟨w5,hw5⟩:=nmm (w4.setCell ⟨C,0,none⟩ (.string ⟨(inn.drop k).toArray⟩));have hMC:w3.heap.size≠C:=by have h1:=HCL.out;have h2:=HS3.out;omega
      have h5:CnO P' X' C ⟨inn.drop k,ms,cur,out,false⟩ (.slice av nm cap) iv cv bp bv Ms w5:=by
       rw[←hw5];exact⟨cq (i:=0) (u:=.string ⟨(inn.drop k).toArray⟩) H4.out.row,H4.out.b.put H4.out.row 0 _⟩
      have e5:Hc w5 w3.heap.size D 32:=by rw[←hw5];exact(heap_setCell_other w4 ⟨C,0,none⟩ _ _ hMC).trans E4.out
      have hoth:∀j,j≠C→j<w3.heap.size→w5.heap[j]?=w3.heap[j]?:=fun j hj hl=>by rw[←hw5];exact(heap_setCell_other w4 ⟨C,0,none⟩ j _ hj).trans (G3.out.block j hl)
      have n5:Nx P X w (fun g=>P' g∨(w2.heap.size≤g∧g<w3.heap.size)) X' w5:=by
       have:=N4.out.trans (P2:=P') (X2:=X') (c:=w5) ⟨by rw[←hw5];exact(Kb.refl _ _).set (.inl H4.out.b.xC) _,fun _ _ q=>q,fun _ _ q=>q⟩;exact⟨this.kb,this.xs,fun j hj q=>q.elim (this.ps j hj) (fun e=>by have:=HW2.out;omega)⟩
      have q5:=HH.out.to n5;have q0:w5.cell? ⟨w3.heap.size,0,none⟩=some (.int .i64 id):=(aq e5 0).trans HQ.out.1;have q1:w5.cell? ⟨w3.heap.size,1,none⟩=some (.int .i64 op):=(aq e5 1).trans HQ.out.2.1;obtain⟨H5,E5,N5,Q5,HO⟩:=Cj (h5.more (P':=fun g=>P' g∨(w2.heap.size≤g∧g<w3.heap.size)) fun g=>.inl) e5 n5 q5 hoth;clear h5 e5 n5 q5 hoth E4 H4 N4 Q4 G3 d0 z0 hx hy hMC
      try rw[hw5]
      clear hw5;obtain⟨bb,hbb⟩:=nmm (!fC.contains op||(!gq op&&(id==0||Cs.has ⟨inn.drop k,ms,cur,out,false⟩ id)));obtain⟨BAD,hBAD⟩:=nmm (cd !=0||bb);obtain⟨HBB,HBD⟩:=Cg hbb hBAD;clear hbb hBAD;obtain⟨sl,hsl⟩:=nmm (gq op);have HSL:=Lib.hid hsl;clear hsl
      go_cut [5] from 65 to 72 (fun v wx=>v=.bool sl∧wx=w5)
      case first=>
       by_cases h2:op=2
       ·subst h2
        obtain rfl:sl=true:=HSL.out.symm
        go_wp2_with fail
        go_meet
        exact⟨rfl,rfl⟩
       ·have e2:(op==2)=false:=aE h2
        obtain⟨b16,e16⟩:=nmm (op==16);obtain rfl:sl=b16:=by have:=HSL.out;unfold gq at this;rw[e2,e16,Bool.false_or] at this;exact this.symm
        go_wp2_with fail
        go_meet
        exact⟨rfl,rfl⟩
      case rest=>
       obtain⟨rfl,hwc⟩:=hcut;rw[hwc];clear hwc
       go_upto_region 9 with fail
       go_cut [95] from 73 to 95 (fun v wx=>v=.bool BAD∧Bw w5 wx)
       case first=>
        by_cases hcd:cd=0
        ·have ecd:(cd==0)=true:=by rw[hcd];rfl
         have ncd:(cd !=0)=false:=by rw[bne,ecd];rfl
         obtain rfl:bb=BAD:=by have:=HBD.out;rw[ncd,Bool.false_or] at this;exact this
         have kq:=D2 op w5;have ht:=fun w' hb=>BW (fun g=>P' g∨(w2.heap.size≤g∧g<w3.heap.size)) X' C ⟨inn.drop k,ms,cur,out,false⟩ id w' (H5.out.bel hb).at
         obtain⟨rq,hrq⟩:=nmm (fC.contains op);obtain⟨hs,hhs⟩:=nmm (Cs.has ⟨inn.drop k,ms,cur,out,false⟩ id);rw[hrq] at kq;rw[hhs] at ht;obtain⟨HT,HRQ,HHS⟩:=Ch ht hrq hhs;clear ht hrq hhs hcd
         go_wp2_with fail
         refine ag kq ?_;rintro e w6 ⟨rfl,hb6⟩;have q0':=(hb6.cell (bj q0)).trans q0;cases rq with
         |false=>
          obtain rfl:bb=true:=by rw[←HBB.out,HRQ.out];rfl
          go_wp2_with fail
          go_meet
          exact⟨rfl,hb6⟩
         |true=>
          cases sl with
          |true=>
           obtain rfl:bb=false:=by rw[←HBB.out,HRQ.out,HSL.out];rfl
           go_wp2_with fail
           go_meet
           exact⟨rfl,hb6⟩
          |false=>
           cases hz:(id==0) with
           |true=>
            obtain rfl:bb=true:=by rw[←HBB.out,HRQ.out,HSL.out,hz];rfl
            go_wp2_with fail
            go_meet
            exact⟨rfl,hb6⟩
           |false=>
            obtain rfl:bb=hs:=by rw[←HBB.out,HRQ.out,HSL.out,hz,HHS.out];rfl
            have kt:=HT.out w6 hb6
            go_wp2_with fail
            refine ag kt ?_;rintro e w7 ⟨rfl,hb7⟩
            go_wp2_with fail
            go_meet
            exact⟨rfl,cM hb6 hb7⟩
        ·have ecd:(cd==0)=false:=aE hcd
         have ncd:(cd !=0)=true:=by rw[bne,ecd];rfl
         obtain rfl:BAD=true:=by have:=HBD.out;rw[ncd,Bool.true_or] at this;exact this.symm
         go_wp2_with fail
         go_meet
         exact⟨rfl,aA _ _⟩
       case rest=>
        obtain⟨rfl,hb7⟩:=hcut;have h7:=H5.out.bel hb7;have n7:=N5.out.bel hb7;have q7:=Q5.out.bels hb7;have e7:=bk hb7 E5.out;cases BAD with
        |true=>
         have kg:=mC w0 _ X' C ⟨inn.drop k,ms,cur,out,false⟩ wc h7.at q7 hou;have HN7:=Lib.hid n7;clear h7 n7 q7 e7
         go_wp2_with fail
         refine ag kg ?_;rintro e w8 ⟨rfl,hT⟩;have FIN:PR w8:=by
          have hc:Cs.gone ⟨inn,ms,cur,out,false⟩=ANS:=by
           rw[←HCUT.out,if_neg (by rintro(q|q);exact absurd q (by decide);exact HK.out q.2),if_neg (by decide)];rcases HQ.out.2.2.2.2 with q|⟨hcd,y,m,hy,hD,hm,hl,hid,hop⟩
           ·obtain⟨c,hc⟩:=q.2.2
            rw[hc]
           ·rw[hy]
            have hbb:Cs.badB ⟨inn,ms,cur,out,false⟩ y=true:=by
             have h1:=HBD.out;rw[hcd,show((0:Int) !=0)=false from rfl,Bool.false_or] at h1;rw[←h1,←HBB.out,hid,hop]
             rfl
            simp only[hbb,if_true]
          rw[←HPR.out,←hc];exact hT.trans HN7.out
         have HF:=Lib.hid FIN;clear FIN HCUT hT kg HN7
         go_wp2_with fail
         first
          |refine bodyPost_end (results_none rfl _ _ _) rfl ?_
          |refine aH (results_none rfl _ _ _) rfl ?_
         exact⟨rfl,HF.out⟩
        |false=>
         have hcd:cd=0:=by
          have h1:=HBD.out;cases hc:(cd !=0) with
          |true=>rw[hc,Bool.true_or] at h1;cases h1
          |false=>simpa using hc
         obtain⟨y,m,hy,hD,hm,hl,hid,hop⟩:∃(y:Mg×Ls) (m:Mg),dy (inn.take k)=.ok y∧D=m.row∧m.pl=y.1∧LsL w2.heap.size w3 m y.2∧id=y.1.id∧op=y.1.op:=by
          rcases HQ.out.2.2.2.2 with q|q
          ·exact absurd hcd q.1
          ·exact q.2
         have hbb:(!fC.contains y.1.op||(!gq y.1.op&&(y.1.id==0||Cs.has ⟨inn.drop k,ms,cur,out,false⟩ y.1.id)))=false:=by
          have h1:=HBD.out;rw[hcd,show((0:Int) !=0)=false from rfl,Bool.false_or] at h1;rw[←hid,←hop,HBB.out,h1]
         have hl7:LsP (fun g=>(P' g∨(w2.heap.size≤g∧g<w3.heap.size))∧¬X' g) wc m y.2:=hl.lsp.kept fun g hg hgl=>
          ⟨(hb7.block g (by have:=HO.out;have q:=(gl E5.out);omega)).trans (HO.out g (by have:=HCL.out;omega) hgl),.inr ⟨hg,hgl⟩,fun q=>by have:=HXL.out g q;omega⟩
         have kc:=CK _ X' C ⟨inn.drop k,ms,cur,out,false⟩ m y wc h7.at hm hl7 (fun h2 h16=>by
          have hs:gq y.1.op=false:=by unfold gq;rw[aE h2,aE h16];rfl
          rw[hs] at hbb;cases hc:Cs.ids ⟨inn.drop k,ms,cur,out,false⟩|>.contains y.1.id with
          |false=>rfl
          |true=>
           have:Cs.has ⟨inn.drop k,ms,cur,out,false⟩ y.1.id=true:=by unfold Cs.has;rw[hc];rfl
           rw[this] at hbb
           simp at hbb) (by have:=HMS.out;show ms.length≤1000;omega)
         rw[←hD] at kc;have hc:Cs.cut n (Cs.comes ⟨inn.drop k,ms,cur,out,false⟩ y)=ANS:=by
          rw[←HCUT.out,if_neg (by rintro(q|q);exact absurd q (by decide);exact HK.out q.2),if_neg (by decide),hy];have hb':Cs.badB ⟨inn,ms,cur,out,false⟩ y=false:=hbb;simp only[hb',aW,if_false]
         obtain⟨HC,HN7⟩:=Cg hc n7;clear h7 n7 q7 hy hD hm hl hl7 hbb hc HCUT hid hop
         go_wp2_with (refine ldM (.tmp 4) e7 HD2.out ?_)
         refine ag kc ?_;rintro e w8 ⟨rfl,hT⟩;obtain⟨P8,X8,h8,n8⟩:=hT;have hle:=C3 ⟨inn.drop k,ms,cur,out,false⟩ y;have hin2:(Cs.comes ⟨inn.drop k,ms,cur,out,false⟩ y).inn.length+k≤inn.length:=by have:=hle.1;simp only[List.length_drop] at this;omega
         have REL:Fp P X C w ANS 1000000000 w8:=⟨P8,X8,_,n,h8,HN7.out.trans n8,by have:=HN.out;omega,by have:=HIN.out;omega,by
          have h1:=hle.2.1;have h2:=HNM.out;have h3:=of_decide_eq_true hlt;simp only at h1
          omega,by rw[hle.2.2];exact hou,HC.out⟩
         have MEA:pm C w8<pm C wr:=by rw[vS h8,HI.out];omega
         obtain⟨HREL2,HMEA⟩:=Cg REL MEA;clear REL MEA hin2 hle h8 n8 kc HC HN7
         go_wp2_with fail
         go_roundw
         case rel=>exact HREL2.out
         case measure=>exact HMEA.out
    ·have ec0:(c==0)=false:=aE hc0
     have en0:(c !=0)=true:=by rw[bne,ec0];rfl
     have kg:=mC w0 P' X' C ⟨inn,ms,cur,out,false⟩ w2 H2.out.at Q2.out hou;clear hc20 hc0 H2
     go_wp2_with fail
     refine ag kg ?_;rintro e w3 ⟨rfl,hT⟩;have FIN:PR w3:=by
      rw[←HPR.out,←HCUT.out,if_neg (by rintro(q|q);exact absurd q (by simpa using e20);exact absurd q.1 (by simpa using ec0)),if_pos (by simpa using ec0)];exact hT.trans N2.out
     have HF:=Lib.hid FIN;clear FIN HCUT hT kg
     go_wp2_with fail
     first
      |refine bodyPost_end (results_none rfl _ _ _) rfl ?_
      |refine aH (results_none rfl _ _ _) rfl ?_
     exact⟨rfl,HF.out⟩
abbrev Xc(C:Nat):Nat→Prop:=fun g=>g=C
theorem nM(w:World):Calls Tryz.prog 5 #[] w fun e w'=>e=.returned (.pointer (some ⟨w.heap.size,0,none⟩))∧dc (Xc w.heap.size) (Xc w.heap.size) w.heap.size {} w'∧Bw w w':=by
 have b1:=alb w #[Es,Sn,.map none,.pointer none,.pointer none,Sn,Es,I0,Bf] 62;have t1:Hc (w.alloc (.cells #[Es,Sn,.map none,.pointer none,.pointer none,Sn,Es,I0,Bf] 62)) w.heap.size (lC [] (Sn) (.map none) (.pointer none) (.pointer none) (Sn) false) 62:=fb _ _ _ rfl;have hat:dc (Xc w.heap.size) (Xc w.heap.size) w.heap.size {} (w.alloc (.cells #[Es,Sn,.map none,.pointer none,.pointer none,Sn,Es,I0,Bf] 62)):=
  ⟨_,_,_,_,_,[],t1,World.ownsRow_nil _ _ _ _,trivial,.inl ⟨rfl,rfl⟩,List.nodup_nil,rfl,.inl rfl,World.ownsRow_nil _ _ _ _,(fun g hg=>by cases hg),(fun g hg=>by cases hg),(fun g hg=>by cases hg),rfl,(fun g hg=>hg),fun g hg=>by rw[hg];simp⟩
 have T1:=hid hat;clear t1 hat
 go_enter Tryz.func5,Tryz.ntmps5
 go_wp2_with fail
 go_ret
 exact⟨rfl,T1.out,b1⟩
def Cs.feed(s:Cs)(b:List UInt8):Cs:=if s.cl then s else Cs.cut (s.inn.length+b.length+1) {s with inn:=s.inn++b}
theorem gF(w0:World)(P X:Nat→Prop)(C:Nat)(s:Cs)(b:List UInt8)(w:World)(h:dc P X C s w)(hH:Hm w0 X w)(hi:s.inn.length+b.length≤1000000000)(hm:s.ms.length≤16)(ho:s.out.length≤1099511627776):
  Calls Tryz.prog 11 #[.pointer (some ⟨C,0,none⟩),.string ⟨b.toArray⟩] w fun e w'=>e=.returned (.tuple #[])∧em P X C w (s.feed b) w':=by
 obtain⟨inn,ms,cur,out,cl⟩:=s;unfold Cs.feed;simp only at hi hm ho⊢;obtain⟨wv,iv,cv,bp,bv,Ms,hr,hb⟩:=h;simp only at hr hb;obtain⟨c0,c1,c2,c3,c8⟩:=dM hr;cases cl with
 |true=>
  have FIN:em P X C w ⟨inn,ms,cur,out,true⟩ w:=⟨P,X,⟨_,_,_,_,_,_,hr,hb⟩,Nx.refl _ _ _⟩;have HF:=hid FIN;rw[if_pos rfl];clear FIN hr hb c1 c2 c3
  go_enter Tryz.func11,Tryz.ntmps11
  go_wp2_with fail
  first
   |refine bodyPost_end (results_none rfl _ _ _) rfl ?_
   |refine aH (results_none rfl _ _ _) rfl ?_
  exact⟨rfl,HF.out⟩
 |false=>
  rw[if_neg (by decide)];have z0:=aj hr 0;have z7:=aj hr 7;have c7:=cval hr 7 I0;have hadd:(⟨inn.toArray⟩:ByteArray)++⟨b.toArray⟩=⟨(inn++b).toArray⟩:=by simp[ByteArray.mk_append_mk]
  have kc:∀W,Hc W C (lC (inn++b) wv iv cv bp bv false) 62→CnB P X C ms (Cs.ids ⟨inn,ms,cur,out,false⟩) cur out wv iv cv bp bv Ms W→Kb X w W→
    Calls Tryz.prog 35 #[.pointer (some ⟨C,0,none⟩)] W fun e w'=>e=.returned (.tuple #[])∧em P X C w (Cs.cut (inn.length+b.length+1) ⟨inn++b,ms,cur,out,false⟩) w':=fun W h1 h2 h3=>by
   have:=wo w0 P X C ⟨inn++b,ms,cur,out,false⟩ W ⟨_,_,_,_,_,_,h1,h2⟩ (hH.to (P:=P) (P':=P) ⟨h3,fun _ _ q=>q,fun _ _ q=>q⟩) (by simpa using hi) hm ho;simp only[xn] at this;exact this.mono fun e w' q=>⟨q.1,em.trans ⟨h3,fun _ _ q=>q,fun _ _ q=>q⟩ q.2⟩
  obtain⟨S',hS'⟩:=nmm (Cs.cut (inn.length+b.length+1) ⟨inn++b,ms,cur,out,false⟩);rw[hS'] at kc⊢;obtain⟨KC,HR,HB⟩:=Ch kc hr hb;clear kc hr hb hS' hH c1 c2 c3
  by_cases hb0:b=[]
  ·subst hb0
   have R1:=cq (i:=0) (u:=.string ⟨(inn++[]).toArray⟩) HR.out;have k1:=KC.out _ R1 (HB.out.put HR.out 0 _) ((Kb.refl X w).set (.inl HB.out.xC) _);rw[List.append_nil] at k1;clear R1
   go_enter Tryz.func11,Tryz.ntmps11
   go_upto_region 4 with fail
   go_wp2_with fail
   refine ag k1 ?_;rintro e w3 ⟨rfl,hT⟩;have HF:=hid hT;clear hT k1 KC HR HB
   go_wp2_with fail
   first
    |refine bodyPost_end (results_none rfl _ _ _) rfl ?_
    |refine aH (results_none rfl _ _ _) rfl ?_
   exact⟨rfl,HF.out⟩
  ·have hbn:(b==[])=false:=aE hb0
   have R1:=cq (i:=0) (u:=.string ⟨(inn++b).toArray⟩) (cq (i:=7) (u:=I0) HR.out);have k1:=KC.out _ R1 ((HB.out.put HR.out 7 _).put (cq (i:=7) (u:=I0) HR.out) 0 _) (((Kb.refl X w).set (.inl HB.out.xC) _).set (.inl HB.out.xC) _);clear R1
   go_enter Tryz.func11,Tryz.ntmps11
   go_upto_region 4 with fail
   go_wp2_with fail
   refine ag k1 ?_;rintro e w3 ⟨rfl,hT⟩;have HF:=hid hT;clear hT k1 KC HR HB
   go_wp2_with fail
   first
    |refine bodyPost_end (results_none rfl _ _ _) rfl ?_
    |refine aH (results_none rfl _ _ _) rfl ?_
   exact⟨rfl,HF.out⟩
def Dc:List UInt8:=[49,46,51,46,54,46,49,46,49,46,56]
def gS(y:Mg):Bool:=y.op==23&&y.oid==Dc
theorem ET(m:Mg)(w:World):Cr 41 #[.agg m.row] w (.bool (gS m)):=by
 have b1:=alb w m.row 32;have t1:=alz w m.row 32;have q1:(w.alloc (.cells m.row 32)).cell? ⟨w.heap.size,1,none⟩=some (.int .i64 m.op):=(aq t1 1).trans rfl;have q21:(w.alloc (.cells m.row 32)).cell? ⟨w.heap.size,21,none⟩=some (.string ⟨m.oid.toArray⟩):=(aq t1 21).trans rfl;obtain⟨D,hD⟩:=nmm m.row;obtain⟨B,hB⟩:=nmm (gS m);rw[hB];have HB:=hid hB;unfold gS at hB;rw[hD] at b1 q1 q21⊢;clear t1 hD hB;obtain⟨eo,heo⟩:=nmm (m.oid==Dc);have he:(m.oid==[49,46,51,46,54,46,49,46,49,46,56])=eo:=heo;have HEO:=hid heo;clear heo
 go_enter Tryz.func41,Tryz.ntmps41
 go_upto_region 1 with fail
 generalize w.alloc (.cells D 32)=w1 at b1 q1 q21⊢
 by_cases h23:m.op=23
 ·have i1:(m.op==23)=true:=by rw[h23];rfl
  obtain rfl:B=eo:=by rw[←HB.out,←HEO.out];unfold gS;rw[i1,Bool.true_and]
  go_wp2_with fail
  go_ret
  exact⟨rfl,b1⟩
 ·have i1:(m.op==23)=false:=aE h23
  obtain rfl:B=false:=by rw[←HB.out];unfold gS;rw[i1,Bool.false_and]
  clear he
  go_wp2_with fail
  go_ret
  exact⟨rfl,b1⟩
theorem dc.small{P X:Nat→Prop}{C:Nat}{s:Cs}{w:World}(h:dc P X C s w):dc (fun g=>P g∧g<w.heap.size) X C s w:=by
 obtain⟨wv,iv,cv,bp,bv,Ms,h⟩:=h;exact(h.kept (P':=fun g=>P g∧g<w.heap.size) (X':=X) (fun g hp hl=>⟨rfl,⟨hp,hl⟩,Iff.rfl⟩) (fun g hg=>⟨h.b.xP g hg,h.b.xl g hg⟩) h.b.xl).at
theorem dc.xl{P X:Nat→Prop}{C:Nat}{s:Cs}{w:World}(h:dc P X C s w):∀g,X g→g<w.heap.size:=by
 obtain⟨wv,iv,cv,bp,bv,Ms,h⟩:=h;exact h.b.xl
theorem dc.xC{P X:Nat→Prop}{C:Nat}{s:Cs}{w:World}(h:dc P X C s w):X C:=by
 obtain⟨wv,iv,cv,bp,bv,Ms,h⟩:=h;exact h.b.xC
theorem dc.cells{P X:Nat→Prop}{C:Nat}{s:Cs}{w:World}(h:dc P X C s w):w.cell? ⟨C,8,none⟩=some (.bool s.cl)∧(s.cur=none→w.cell? ⟨C,3,none⟩=some (.pointer none))∧(∃a cap,w.cell? ⟨C,1,none⟩=some (.slice a s.ms.length cap))∧w.frozen? ⟨C,3,none⟩=false:=by
 obtain⟨wv,iv,cv,bp,bv,Ms,h⟩:=h;obtain⟨c0,c1,c2,c3,c8⟩:=dM h.row;refine⟨c8,fun hc=>?_,?_,aj h.row 3⟩
 ·have:=h.b.cu
  rw[hc] at this;rw[c3,show cv=.pointer none from this]
 ·rcases h.b.own.2 with⟨hv,h0⟩|⟨g,cap,x,hv,_⟩
  ·exact⟨none,0,by rw[c1,hv,h0]⟩
  ·exact⟨_,cap,by rw[c1,hv]⟩
theorem dc.setCur{P X:Nat→Prop}{C F:Nat}{s:Cs}{w:World}{D:Array Value}{c:Int×Int}(h:dc P X C s w)(hF:Hc w F D 32)(h0:D[0]?=some (.int .i64 c.1))(h1:D[1]?=some (.int .i64 c.2))(hX:¬X F):
  dc (fun g=>P g∨g=F) X C {s with cur:=some c} (w.setCell ⟨C,3,none⟩ (.pointer (some ⟨F,0,none⟩))):=by
 obtain⟨wv,iv,cv,bp,bv,Ms,h⟩:=h;have k:=(h.more (P':=fun g=>P g∨g=F) fun g=>.inl).b.put h.row 3 (.pointer (some ⟨F,0,none⟩));have hFC:F≠C:=fun e=>hX (e▸h.b.xC)
 exact⟨_,_,_,_,_,_,cq (i:=3) (u:=.pointer (some ⟨F,0,none⟩)) h.row,k.own,k.msg,k.im,k.nd,⟨F,D,rfl,⟨.inr rfl,hX⟩,(heap_setCell_other w ⟨C,3,none⟩ F _ hFC).trans hF,h0,h1⟩,k.bq,k.bw,k.xw,k.xi,k.xb,k.xC,k.xP,k.xl⟩
theorem dc.row{P X:Nat→Prop}{C E:Nat}{s:Cs}{w:World}(h:dc P X C s w)(hE:¬P E)(D:Array Value):dc P X C s (w.setRow E D):=by
 obtain⟨wv,iv,cv,bp,bv,Ms,h⟩:=h;exact(h.kept (P':=P) (X':=X) (fun g hp _=>⟨setRow_other w E g D (fun e=>hE (e▸hp)),hp,Iff.rfl⟩) h.b.xP (fun g hg=>by simpa[World.setRow] using h.b.xl g hg)).at
def Cs.took(s:Cs)(y:Mg×Ls)(r:List (Mg×Ls)):Cs:=Cs.cut (s.inn.length+1) {s with ms:=r,cur:=some (y.1.id,y.1.op)}
def Dd(P X:Nat→Prop)(C:Nat)(w:World)(y:Mg×Ls)(s':Cs)(e:Ending)(w':World):Prop:=
 ∃(m:Mg) (P' X':Nat→Prop),e=.returned (.tuple #[.agg m.row,.bool true])∧m.pl=y.1∧dc P' X' C s' w'∧Nx P X w P' X' w'∧LsP (fun g=>(g<w.heap.size→P g)∧g<w'.heap.size∧¬X' g) w' m y.2
theorem iM(P X:Nat→Prop)(C:Nat)(s:Cs)(w:World)(h:dc P X C s w):Cr 20 #[.pointer (some ⟨C,0,none⟩)] w (.bool s.cl):=by
 obtain⟨c8,-⟩:=h.cells;obtain⟨cl,hcl⟩:=nmm s.cl;rw[hcl] at c8⊢;clear h hcl
 go_enter Tryz.func20,Tryz.ntmps20
 go_wp2_with fail
 go_ret
 exact⟨rfl,aA _ _⟩
theorem CM(C:Nat)(w:World):Cr 21 #[.pointer (some ⟨C,0,none⟩)] w (.int .i64 16):=by
 go_enter Tryz.func21,Tryz.ntmps21
 go_wp2_with fail
 go_ret
 exact⟨rfl,aA _ _⟩
theorem Eb(P X:Nat→Prop)(C:Nat)(s:Cs)(c:Int×Int)(w:World)(h:dc P X C s w)(hc:s.cur=some c):Cr 19 #[.pointer (some ⟨C,0,none⟩)] w (.int .i64 c.1):=by
 obtain⟨wv,iv,cv,bp,bv,Ms,h⟩:=h;obtain⟨c0,c1,c2,c3,c8⟩:=dM h.row;have hcu:=h.b.cu;rw[hc] at hcu;obtain⟨F,D,rfl,_,hF,h0,_⟩:=hcu;have q0:=(aq hF 0).trans h0;clear h hF c0 c1 c2 c8
 go_enter Tryz.func19,Tryz.ntmps19
 go_wp2_with fail
 go_ret
 exact⟨rfl,aA _ _⟩
theorem Tryz.infoInt:(Tryz.prog.info? 3).map (fun i=>(i.zero,i.size,i.bytes))=some (some (I0),1,8):=by kernel_rfl
def Dz(w:World)(ids:List Int)(v i:Value)(wr:World):Prop:=∃j:Nat,j≤ids.length∧i=.int .i64 (j:Int)∧wr.ownsRow w.heap.size 3 1 v j ((ids.map (Value.int .i64)).take j)∧Bw w wr
theorem Ec(P X:Nat→Prop)(C:Nat)(s:Cs)(w:World)(h:dc P X C s w)(hlen:s.ms.length≤1000):
  Calls Tryz.prog 18 #[.pointer (some ⟨C,0,none⟩)] w fun e w'=>(∃v,e=.returned v∧w'.ownsRow w.heap.size 3 1 v s.ids.length (s.ids.map (Value.int .i64)))∧Bw w w':=by
 obtain⟨i0,hi0,hz0,hz1,hz2⟩:=info_parts Tryz.infoInt;obtain⟨wv,iv,cv,bp,bv,Ms,h⟩:=h;obtain⟨c0,c1,c2,c3,c8⟩:=dM h.row;obtain⟨ids,hI⟩:∃ids,s.ids=ids:=⟨_,rfl⟩;obtain⟨n,hn⟩:=nmm s.ms.length;have hil:ids.length=n:=by rw[←hI,←hn];exact List.length_map _
 have hown:=h.b.own;rw[hn] at hown hlen;obtain⟨av,cap,rfl⟩:∃a cap,wv=.slice a n cap:=by
  rcases hown.2 with⟨hv,h0⟩|⟨g,cap,x,hv,_⟩
  ·exact⟨none,0,by rw[hv,h0]⟩
  ·exact⟨_,cap,hv⟩
 rw[hI];obtain⟨HO,HM,HI,HLN⟩:=Ci hown h.b.msg hI hil;clear h c0 c2 c3 c8 hown hI hn hil
 go_enter Tryz.func18,Tryz.ntmps18
 go_wp2_with fail
 go_loopw [3,13] (fun v i wr=>Dz w ids v i wr) (fun _ i _=>n -(RowKit.intOf i).toNat)
 case atStart=>exact⟨0,Nat.zero_le _,rfl,World.ownsRow_nil _ _ _ _,aA _ _⟩
 case round=>
  obtain⟨j,hj,rfl,hrow,hbe⟩:=hrel;rw[HLN.out] at hj;have hsz:=hbe.size
  by_cases hlt:j<n
  ·have g1:decide ((j:Int)<(n:Int))=true:=aC (by omega)
   obtain⟨g,cap',e0,_⟩:=HO.out.form (by omega)
   injection e0 with ea _ ec
   subst ea;subst ec
   have hjm:j<s.ms.length:=by have h1:=HI.out;have h2:=HLN.out;rw[←h1] at h2;simp only[Cs.ids,List.length_map] at h2;omega
   obtain⟨y,hy⟩:∃y,s.ms[j]?=some y:=⟨_,aM hjm⟩;obtain⟨m,hMi,hpl,hls⟩:=HM.out.get hy;have hkey:ids[j]?=some y.1.id:=by rw[←HI.out];show(s.ms.map (·.1.id))[j]?=_;rw[List.getElem?_map,hy];rfl
   have hown:wr.ownsRow 0 32 28 (.slice (some ⟨g,0,none⟩) n cap) n (cC Ms):=gM HO.out fun b hb=>hbe.block b (HO.out.lt b hb).2
   have hrng:wr.rangeAt g (j*28) m.row.toList:=fun i v hi=>by
    have hil:i<28:=(List.getElem?_eq_some_iff.1 hi).1;have hc:=hown.cells (g:=g) rfl (j*28+i) v (by rw[ie Ms j i m hMi hil];exact hi);rw[show(⟨g,0,none⟩:Addr).add (j*28+i)=⟨g,j*28+i,none⟩ by simp[Addr.add_lit]] at hc;exact hc
   have htk:(ids.map (Value.int .i64)).take (j+1)=(ids.map (Value.int .i64)).take j++[.int .i64 y.1.id]:=by rw[List.take_add_one,List.getElem?_map,hkey];rfl
   obtain⟨D,hD⟩:=nmm m.row;have hD1:D.all (·.oneCell')=true:=by rw[←hD];exact hls.one
   have hD2:D.size=28:=by rw[←hD];rfl
   have hD0:D[0]?=some (.int .i64 y.1.id):=by rw[←hD,←hpl];rfl
   rw[hD] at hrng;have y2:=alz wr Zm 32;have e2:=setRow_heap (wr.alloc (.cells Zm 32)) wr.heap.size _ D _ _ y2;have g2:Bw wr ((wr.alloc (.cells Zm 32)).setRow wr.heap.size D):=xo ((aA _ _).alloc (ah _) _) (ah _) D;have hrow2:=ge hrow g2;have b2:=cM hbe g2;obtain⟨Y2,E2,HR2,B2,HD0,HD1,HD2,HTK,HRN⟩:=CE y2 e2 hrow2 b2 hD0 hD1 hD2 htk hrng;have hk1:((j:Int)<(n:Int)):=by omega
   clear hD hD1 hD2 hD0 hpl hls hMi hy hjm hown htk hkey hrng y2 e2 g2 hrow2 b2 hrow hbe
   go_wp2_with (first
    |(refine wpList_load_mid rfl 32 (.tmp 15) rfl g (j*28) (by rfl) D.toList _ HRN.out Tryz.underlying32 rfl (by rw[Array.length_toList,HD2.out];rfl) ?_;rw[Array.toArray_toList])
    |(refine stM (.tmp 5) (.tmp 16) D Y2.out HD2.out HD1.out ?_;generalize((wr.alloc (.cells Zm 32)).setRow wr.heap.size D)=w2 at E2 HR2 B2⊢;clear Y2;have q0:w2.cell? ⟨wr.heap.size,0,none⟩=some (.int .i64 y.1.id):=(aq E2.out 0).trans HD0.out;have hsz2:=B2.out.size;have hr2:=HR2.out)
    |(at_builtin;refine wpList_append_own _ rfl (.tmp 17) (.tmp 20) 52 rfl w.heap.size 3 i0 _ 1 8 Tryz.underlying52 hi0 hz0 hz1 hz2 rfl (by decide) _ _ _ rfl (hr2.alloc _) ⟨w2.heap.size,0,none⟩ 1 1 [.int .i64 y.1.id] rfl rfl (cell_one_new _ _ _) ?d2 ?d3 ?d4 ?d5 ?_))
   case d2=>first|rfl|(intro u hu;simp at hu;subst hu;rfl)
   case d3=>unfold maxLen;omega
   case d4=>omega
   case d5=>first|omega|(simp;omega)
   intro v' w7 ho7 hg7 _;rw[←HTK.out] at ho7;have b7:Bw w w7:=(B2.out.alloc hsz2 _).grown hg7 (by simp;omega) (fun k hk=>(hr2.lt k hk).1);have HO7:=hid ho7;clear hg7 ho7 HR2 E2 q0 hr2
   go_wp2_with fail
   go_roundw
   case rel=>exact⟨j+1,by rw[HLN.out];omega,by go_num,HO7.out,b7⟩
   case measure=>simp[RowKit.intOf];omega
  ·obtain rfl:j=n:=by omega
   have g1:decide ((j:Int)<(j:Int))=false:=an (by omega);rw[List.take_of_length_le (by rw[List.length_map,HLN.out];exact ah _)] at hrow;have HR:=hid hrow;clear hrow
   go_wp2_with fail
   go_ret
   exact⟨⟨_,rfl,by rw[HLN.out];exact HR.out⟩,hbe⟩
theorem dc.noCur{P X:Nat→Prop}{C:Nat}{s:Cs}{w:World}(h:dc P X C s w):dc P X C {s with cur:=none} ((w.setCell ⟨C,3,none⟩ (.pointer none)).setCell ⟨C,7,none⟩ (I0)):=by
 obtain⟨wv,iv,cv,bp,bv,Ms,h⟩:=h;have r3:=cq (i:=3) (u:=.pointer none) h.row;have k:=(h.b.put h.row 3 (.pointer none)).put r3 7 (I0);exact⟨_,_,_,_,_,_,cq (i:=7) (u:=I0) r3,k.own,k.msg,k.im,k.nd,rfl,k.bq,k.bw,k.xw,k.xi,k.xb,k.xC,k.xP,k.xl⟩
theorem dc.done{P X:Nat→Prop}{C:Nat}{s:Cs}{w:World}(h:dc P X C s w):em P X C w {s with cur:=none} ((w.setCell ⟨C,3,none⟩ (.pointer none)).setCell ⟨C,7,none⟩ (I0)):=
 ⟨P,X,h.noCur,((Kb.refl X w).set (.inl h.xC) _).set (.inl h.xC) _,fun _ _ q=>q,fun _ _ q=>q⟩
theorem dc.cells2{P X:Nat→Prop}{C:Nat}{s:Cs}{w:World}(h:dc P X C s w){c:Int×Int}(hc:s.cur=some c):(∃F,w.cell? ⟨C,3,none⟩=some (.pointer (some ⟨F,0,none⟩)))∧w.frozen? ⟨C,3,none⟩=false∧w.cell? ⟨C,7,none⟩=some (I0)∧w.frozen? ⟨C,7,none⟩=false:=by
 obtain⟨wv,iv,cv,bp,bv,Ms,h⟩:=h;obtain⟨c0,c1,c2,c3,c8⟩:=dM h.row;have hcu:=h.b.cu;rw[hc] at hcu;obtain⟨F,D,rfl,_,hF,h0,_⟩:=hcu;exact⟨⟨F,c3⟩,aj h.row 3,(aq h.row 7).trans rfl,aj h.row 7⟩
theorem dc.cell3{P X:Nat→Prop}{C:Nat}{s:Cs}{w:World}(h:dc P X C s w)(hc:s.cur=none):w.cell? ⟨C,3,none⟩=some (.pointer none):=by
 obtain⟨_,h3,_⟩:=h.cells;exact h3 hc
theorem Ek(P X:Nat→Prop)(C:Nat)(s:Cs)(w:World)(h:dc P X C s w):
  Calls Tryz.prog 36 #[.pointer (some ⟨C,0,none⟩),Sn] w fun e w'=>e=.returned (.tuple #[])∧em P X C w {s with cur:=none} w':=by
 cases hc:s.cur with
 |none=>
  have c3:=h.cell3 hc;have HF:=hid (show em P X C w {s with cur:=none} w from by
   have e:({s with cur:=none}:Cs)=s:=by rw[←hc]
   rw[e];exact⟨P,X,h,Nx.refl _ _ _⟩)
  clear h hc
  go_enter Tryz.func36,Tryz.ntmps36
  go_wp2_with fail
  first
   |refine bodyPost_end (results_none rfl _ _ _) rfl ?_
   |refine aH (results_none rfl _ _ _) rfl ?_
  exact⟨rfl,HF.out⟩
 |some c=>
  obtain⟨⟨F,c3⟩,z3,c7,z7⟩:=h.cells2 hc;have HF:=hid h.done;clear h hc
  go_enter Tryz.func36,Tryz.ntmps36
  go_wp2_with fail
  refine wp_loop_rounds 1 ?_;rw[rounds_succ]
  go_wp2_with fail
  first
   |refine bodyPost_end (results_none rfl _ _ _) rfl ?_
   |refine aH (results_none rfl _ _ _) rfl ?_
  exact⟨rfl,HF.out⟩
theorem ct.drewN{w:World}{v:Value}{l:List (List UInt8)}(h:ct w v l)(n:Nat):ct (w.drewN n) v l:=h
theorem eG.drewN{w:World}{v:Value}{l:List (List UInt8×List (List UInt8))}(h:eG w v l)(n:Nat):eG (w.drewN n) v l:=h
theorem eY.drewN{w:World}{v:Value}{l:List Md}(h:eY w v l)(n:Nat):eY (w.drewN n) v l:=h
theorem jm(v u:Value)(r q:List (List UInt8))(w:World)(h1:ct w v r)(h2:ct w u q)(hl:r.length≤140737488355328)(_hl2:q.length≤140737488355328):
  Calls Tryz.prog 63 #[v,u] w fun e w'=>e=.returned (.bool (decide (r=q)))∧∃m,w'=w.drewN m:=by
 obtain⟨H1,H2⟩:=Cg h1 h2;obtain⟨a1,c1,rfl,hc1,hx1⟩:=h1;obtain⟨a2,c2,rfl,hc2,hx2⟩:=h2;clear hx1 hx2
 by_cases hlen:r.length=q.length
 ·have hq:((r.length:Int)==(q.length:Int))=true:=by rw[hlen];simp
  generalize hA:decide (r=q)=ANS;have HA:=hid hA;clear hA
  go_enter Tryz.func63,Tryz.ntmps63
  go_wp2_with fail
  go_loopw [5] (fun i wr=>∃k m:Nat,i=.int .i64 (k:Int)∧k≤r.length∧wr=w.drewN m∧decide (r.drop k=q.drop k)=ANS) (fun i _=>r.length -(RowKit.intOf i).toNat)
  case atStart=>exact⟨0,0,rfl,by omega,rfl,HA.out⟩
  case round=>
   obtain⟨k,m,rfl,hk,rfl,hans⟩:=hrel;clear HA
   by_cases hkl:k<r.length
   ·have hkl2:k<q.length:=by omega
    obtain⟨x,hx⟩:=nmm (r[k]);obtain⟨y,hy⟩:=nmm (q[k]);have hxk:r[k]?=some x:=by rw[aM hkl,hx]
    have hyk:q[k]?=some y:=by rw[aM hkl2,hy]
    have hr0:r≠[]:=by intro e;rw[e] at hkl;simp at hkl
    have hq0:q≠[]:=by intro e;rw[e] at hkl2;simp at hkl2
    rw[List.drop_eq_getElem_cons hkl,hx,List.drop_eq_getElem_cons hkl2,hy] at hans;obtain⟨a3,cap3,e3,_,hcell⟩:=H1.out;obtain⟨g,o,ha,hcc⟩:=hcell hr0;obtain⟨a4,cap4,e4,_,hcell4⟩:=H2.out;obtain⟨g',o',ha',hcc'⟩:=hcell4 hq0;cases e3;cases e4;subst ha ha';have p1:=hcc k x hxk;have p2:=hcc' k y hyk;clear hcc hcell hcc' hcell4 hxk hyk hx hy;have i1:(k:Int)<(r.length:Int):=by omega
    have i2:(k:Int)<(q.length:Int):=by omega
    have i3:decide ((k:Int)<(r.length:Int))=true:=aC i1
    by_cases hxy:x=y
    ·subst hxy
     have hans2:decide (r.drop (k+1)=q.drop (k+1))=ANS:=by rw[←hans];exact decide_eq_decide.2 (by simp)
     have HS:=hid hans2;clear hans hans2
     go_wp2
     go_quiet (fail)
     go_wp2
     exact⟨⟨k+1,_,by go_num,by omega,rfl,HS.out⟩,by simp[RowKit.intOf];omega⟩
    ·have e:ANS=false:=by rw[←hans];exact an (fun e=>hxy (aN e).1)
     subst e;clear hans;have b1:(x==y)=false:=by simpa using hxy
     clear hxy
     go_wp2
     go_quiet (fail)
     go_wp2
     go_ret
     exact⟨rfl,_,World.drewN_drewN _ _ _⟩
   ·obtain rfl:k=r.length:=by omega
    have e:ANS=true:=by rw[←hans,List.drop_of_length_le (ah _),hlen,List.drop_of_length_le (ah _)];rfl
    subst e
    go_wp2_with fail
    go_ret
    first|exact⟨rfl,_,rfl⟩|exact⟨rfl,_,World.drewN_drewN _ _ _⟩
 ·have hq:((r.length:Int)==(q.length:Int))=false:=by simpa using(fun e=>hlen (by omega))
  have e:decide (r=q)=false:=an (fun e=>hlen (by rw[e]));rw[e]
  go_enter Tryz.func63,Tryz.ntmps63
  go_wp2_with fail
  go_ret
  exact⟨rfl,0,rfl⟩
theorem mI(v u:Value)(r q:List Md)(w:World)(h1:eY w v r)(h2:eY w u q)(hl:r.length≤140737488355328)(_hl2:q.length≤140737488355328)(hr:∀x∈r,x.2.2.length≤140737488355328)(hq:∀x∈q,x.2.2.length≤140737488355328):
  Calls Tryz.prog 64 #[v,u] w fun e w'=>e=.returned (.bool (decide (r=q)))∧∃m,w'=w.drewN m:=by
 obtain⟨H1,H2,H3,H4⟩:=Ci h1 h2 hr hq;clear hr hq;obtain⟨a1,c1,rfl,hc1,hx1⟩:=h1;obtain⟨a2,c2,rfl,hc2,hx2⟩:=h2;clear hx1 hx2
 by_cases hlen:r.length=q.length
 ·have hq:((r.length:Int)==(q.length:Int))=true:=by rw[hlen];simp
  generalize hA:decide (r=q)=ANS;have HA:=hid hA;clear hA
  go_enter Tryz.func64,Tryz.ntmps64
  go_wp2_with fail
  go_loopw [5] (fun i wr=>∃k m:Nat,i=.int .i64 (k:Int)∧k≤r.length∧wr=w.drewN m∧decide (r.drop k=q.drop k)=ANS) (fun i _=>r.length -(RowKit.intOf i).toNat)
  case atStart=>exact⟨0,0,rfl,by omega,rfl,HA.out⟩
  case round=>
   obtain⟨k,m,rfl,hk,rfl,hans⟩:=hrel;clear HA
   by_cases hkl:k<r.length
   ·have hkl2:k<q.length:=by omega
    obtain⟨x,hx⟩:=nmm (r[k]);obtain⟨y,hy⟩:=nmm (q[k]);have hxk:r[k]?=some x:=by rw[aM hkl,hx]
    have hyk:q[k]?=some y:=by rw[aM hkl2,hy]
    have hr0:r≠[]:=by intro e;rw[e] at hkl;simp at hkl
    have hq0:q≠[]:=by intro e;rw[e] at hkl2;simp at hkl2
    have hxl:=H3.out x (List.mem_of_getElem? hxk);have hyl:=H4.out y (List.mem_of_getElem? hyk);rw[List.drop_eq_getElem_cons hkl,hx,List.drop_eq_getElem_cons hkl2,hy] at hans;obtain⟨a3,cap3,e3,_,hcell⟩:=H1.out;obtain⟨g,o,ha,hcc⟩:=hcell hr0;obtain⟨a4,cap4,e4,_,hcell4⟩:=H2.out;obtain⟨g',o',ha',hcc'⟩:=hcell4 hq0;cases e3;cases e4;subst ha ha';obtain⟨p1,p2,z1,p3,hz1⟩:=hcc k x hxk;obtain⟨r1,r2,z2,r3,hz2⟩:=hcc' k y hyk;clear hcc hcell hcc' hcell4 hxk hyk hx hy;have i1:(k:Int)<(r.length:Int):=by omega
    have i2:(k:Int)<(q.length:Int):=by omega
    have i3:decide ((k:Int)<(r.length:Int))=true:=aC i1;have ks:=fun a=>(jm z1 z2 x.2.2 y.2.2 (w.drewN (m+a)) (hz1.drewN _) (hz2.drewN _) hxl hyl).mono (fun e w'' h=>(show e=.returned (.bool (decide (x.2.2=y.2.2)))∧∃n,w''=w.drewN (m+n) from⟨h.1,h.2.elim fun n hn=>⟨a+n,by rw[hn,World.drewN_drewN,Nat.add_assoc]⟩⟩))
    obtain⟨s1,d1,e5,_,_⟩:=hz1;obtain⟨s2,d2,e6,_,_⟩:=hz2;subst e5 e6
    by_cases ho:x.1=y.1
    ·have b1:(x.1==y.1)=true:=by simpa using ho
     have b1n:(x.1 !=y.1)=false:=by simp[ho]
     by_cases ht:x.2.1=y.2.1
     ·have b2:(x.2.1==y.2.1)=true:=by simpa using ht
      have b2n:(x.2.1 !=y.2.1)=false:=by simp[ht]
      by_cases hv:x.2.2=y.2.2
      ·have hxy:x=y:=Prod.ext ho (Prod.ext ht hv)
       rw[aC hv] at ks;have hans2:decide (r.drop (k+1)=q.drop (k+1))=ANS:=by rw[←hans];exact decide_eq_decide.2 (by simp[hxy])
       have HS:=hid hans2;clear hans hans2 ho ht hv hxy
       go_wp2
       go_quiet (exact ks _)
       go_wp2
       exact⟨⟨k+1,_,by go_num,by omega,rfl,HS.out⟩,by simp[RowKit.intOf];omega⟩
      ·have e:ANS=false:=by rw[←hans];exact an (fun e=>hv (by rw[(aN e).1]))
       subst e;rw[an hv] at ks;clear hans ho ht hv
       go_wp2
       go_quiet (exact ks _)
       go_wp2
       go_ret
       first|exact⟨rfl,_,rfl⟩|exact⟨rfl,_,World.drewN_drewN _ _ _⟩
     ·have b2:(x.2.1==y.2.1)=false:=by simpa using ht
      have b2n:(x.2.1 !=y.2.1)=true:=by simp[ht]
      have e:ANS=false:=by rw[←hans];exact an (fun e=>ht (by rw[(aN e).1]))
      subst e;clear hans ho ht ks
      go_wp2
      go_quiet (fail)
      go_wp2
      go_ret
      first|exact⟨rfl,_,rfl⟩|exact⟨rfl,_,World.drewN_drewN _ _ _⟩
    ·have b1:(x.1==y.1)=false:=by simpa using ho
     have b1n:(x.1 !=y.1)=true:=by simp[ho]
     have e:ANS=false:=by rw[←hans];exact an (fun e=>ho (by rw[(aN e).1]))
     subst e;clear hans ho ks
     go_wp2
     go_quiet (fail)
     go_wp2
     go_ret
     exact⟨rfl,_,World.drewN_drewN _ _ _⟩
   ·obtain rfl:k=r.length:=by omega
    have e:ANS=true:=by rw[←hans,List.drop_of_length_le (ah _),hlen,List.drop_of_length_le (ah _)];rfl
    subst e
    go_wp2_with fail
    go_ret
    first|exact⟨rfl,_,rfl⟩|exact⟨rfl,_,World.drewN_drewN _ _ _⟩
 ·have hq:((r.length:Int)==(q.length:Int))=false:=by simpa using(fun e=>hlen (by omega))
  have e:decide (r=q)=false:=an (fun e=>hlen (by rw[e]));rw[e]
  go_enter Tryz.func64,Tryz.ntmps64
  go_wp2_with fail
  go_ret
  exact⟨rfl,0,rfl⟩
theorem lT(v u:Value)(r q:List (List UInt8×List (List UInt8)))(w:World)(h1:eG w v r)(h2:eG w u q)(hl:r.length≤140737488355328)(_hl2:q.length≤140737488355328)(hr:∀x∈r,x.2.length≤140737488355328)(hq:∀x∈q,x.2.length≤140737488355328):
  Calls Tryz.prog 65 #[v,u] w fun e w'=>e=.returned (.bool (decide (r=q)))∧∃m,w'=w.drewN m:=by
 obtain⟨H1,H2,H3,H4⟩:=Ci h1 h2 hr hq;clear hr hq;obtain⟨a1,c1,rfl,hc1,hx1⟩:=h1;obtain⟨a2,c2,rfl,hc2,hx2⟩:=h2;clear hx1 hx2
 by_cases hlen:r.length=q.length
 ·have hq:((r.length:Int)==(q.length:Int))=true:=by rw[hlen];simp
  generalize hA:decide (r=q)=ANS;have HA:=hid hA;clear hA
  go_enter Tryz.func65,Tryz.ntmps65
  go_wp2_with fail
  go_loopw [5] (fun i wr=>∃k m:Nat,i=.int .i64 (k:Int)∧k≤r.length∧wr=w.drewN m∧decide (r.drop k=q.drop k)=ANS) (fun i _=>r.length -(RowKit.intOf i).toNat)
  case atStart=>exact⟨0,0,rfl,by omega,rfl,HA.out⟩
  case round=>
   obtain⟨k,m,rfl,hk,rfl,hans⟩:=hrel;clear HA
   by_cases hkl:k<r.length
   ·have hkl2:k<q.length:=by omega
    obtain⟨x,hx⟩:=nmm (r[k]);obtain⟨y,hy⟩:=nmm (q[k]);have hxk:r[k]?=some x:=by rw[aM hkl,hx]
    have hyk:q[k]?=some y:=by rw[aM hkl2,hy]
    have hr0:r≠[]:=by intro e;rw[e] at hkl;simp at hkl
    have hq0:q≠[]:=by intro e;rw[e] at hkl2;simp at hkl2
    have hxl:=H3.out x (List.mem_of_getElem? hxk);have hyl:=H4.out y (List.mem_of_getElem? hyk);rw[List.drop_eq_getElem_cons hkl,hx,List.drop_eq_getElem_cons hkl2,hy] at hans;obtain⟨a3,cap3,e3,_,hcell⟩:=H1.out;obtain⟨g,o,ha,hcc⟩:=hcell hr0;obtain⟨a4,cap4,e4,_,hcell4⟩:=H2.out;obtain⟨g',o',ha',hcc'⟩:=hcell4 hq0;cases e3;cases e4;subst ha ha';obtain⟨p1,z1,p3,hz1⟩:=hcc k x hxk;obtain⟨r1,z2,r3,hz2⟩:=hcc' k y hyk;clear hcc hcell hcc' hcell4 hxk hyk hx hy;have i1:(k:Int)<(r.length:Int):=by omega
    have i2:(k:Int)<(q.length:Int):=by omega
    have i3:decide ((k:Int)<(r.length:Int))=true:=aC i1;obtain⟨HZ1,HZ2⟩:=Cg hz1 hz2;obtain⟨s1,d1,e5,_,_⟩:=hz1;obtain⟨s2,d2,e6,_,_⟩:=hz2;subst e5 e6
    by_cases ht:x.1=y.1
    ·have b1:(x.1==y.1)=true:=by simpa using ht
     have b1n:(x.1 !=y.1)=false:=by simp[ht]
     by_cases hv:x.2.length=y.2.length
     ·have b2:((x.2.length:Int)==(y.2.length:Int))=true:=by rw[hv];simp
      have hans2:decide (x.2.drop 0=y.2.drop 0∧r.drop (k+1)=q.drop (k+1))=ANS:=by
       rw[←hans];refine decide_eq_decide.2 ⟨fun h=>?_,fun h=>?_⟩
       ·have:x=y:=Prod.ext ht (by simpa using h.1)
        rw[this,h.2]
       ·have:=aN h
        exact⟨by rw[this.1],this.2⟩
      have HS:=hid hans2;clear hans hans2 ht
      go_wp2
      go_quiet (fail)
      go_wp2
      go_loopw [6] (fun i wr=>∃j m:Nat,i=.int .i64 (j:Int)∧j≤x.2.length∧wr=w.drewN m∧decide (x.2.drop j=y.2.drop j∧r.drop (k+1)=q.drop (k+1))=ANS) (fun i _=>x.2.length -(RowKit.intOf i).toNat)
      case atStart=>exact⟨0,_,rfl,by omega,World.drewN_drewN _ _ _,HS.out⟩
      case round=>
       obtain⟨j,m2,rfl,hj,rfl,hans⟩:=hrel;clear HS
       by_cases hjl:j<x.2.length
       ·have hjl2:j<y.2.length:=by omega
        obtain⟨xv,hxv⟩:=nmm (x.2[j]);obtain⟨yv,hyv⟩:=nmm (y.2[j]);have hxk:x.2[j]?=some xv:=by rw[aM hjl,hxv]
        have hyk:y.2[j]?=some yv:=by rw[aM hjl2,hyv]
        have hr0:x.2≠[]:=by intro e;rw[e] at hjl;simp at hjl
        have hq0:y.2≠[]:=by intro e;rw[e] at hjl2;simp at hjl2
        rw[List.drop_eq_getElem_cons hjl,hxv,List.drop_eq_getElem_cons hjl2,hyv] at hans;obtain⟨a5,cap5,e5,_,hcell⟩:=HZ1.out;obtain⟨g5,o5,ha,hcc⟩:=hcell hr0;obtain⟨a6,cap6,e6,_,hcell4⟩:=HZ2.out;obtain⟨g6,o6,ha',hcc'⟩:=hcell4 hq0;cases e5;cases e6;subst ha ha';have t1:=hcc j xv hxk;have t2:=hcc' j yv hyk;clear hcc hcell hcc' hcell4 hxk hyk hxv hyv;have i4:(j:Int)<(x.2.length:Int):=by omega
        have i5:(j:Int)<(y.2.length:Int):=by omega
        have i6:decide ((j:Int)<(x.2.length:Int))=true:=aC i4
        by_cases hxy:xv=yv
        ·subst hxy
         have hans2:decide (x.2.drop (j+1)=y.2.drop (j+1)∧r.drop (k+1)=q.drop (k+1))=ANS:=by rw[←hans];exact decide_eq_decide.2 (by simp)
         have HS:=hid hans2;clear hans hans2
         go_wp2
         go_quiet (fail)
         go_wp2
         exact⟨⟨j+1,_,by go_num,by omega,rfl,HS.out⟩,by simp[RowKit.intOf];omega⟩
        ·have e:ANS=false:=by rw[←hans];exact an (fun e=>hxy (aN e.1).1)
         subst e;clear hans;have b3:(xv==yv)=false:=by simpa using hxy
         have b3n:(xv !=yv)=true:=by simp[hxy]
         clear hxy
         go_wp2
         go_quiet (fail)
         go_wp2
         go_ret
         first|exact⟨rfl,_,rfl⟩|exact⟨rfl,_,World.drewN_drewN _ _ _⟩
       ·obtain rfl:j=x.2.length:=by omega
        have hans2:decide (r.drop (k+1)=q.drop (k+1))=ANS:=by
         rw[←hans,List.drop_of_length_le (ah _),hv,List.drop_of_length_le (ah _)]
         simp
        have HS:=hid hans2;clear hans hans2
        go_wp2_with fail
        exact⟨⟨k+1,_,by go_num,by omega,rfl,HS.out⟩,by simp[RowKit.intOf];omega⟩
     ·have b2:((x.2.length:Int)==(y.2.length:Int))=false:=by simpa using(fun e=>hv (by omega))
      have e:ANS=false:=by rw[←hans];exact an (fun e=>hv (by rw[(aN e).1]))
      subst e;clear hans ht hv
      go_wp2
      go_quiet (fail)
      go_wp2
      go_ret
      first|exact⟨rfl,_,rfl⟩|exact⟨rfl,_,World.drewN_drewN _ _ _⟩
    ·have b1:(x.1==y.1)=false:=by simpa using ht
     have b1n:(x.1 !=y.1)=true:=by simp[ht]
     have e:ANS=false:=by rw[←hans];exact an (fun e=>ht (by rw[(aN e).1]))
     subst e;clear hans ht
     go_wp2
     go_quiet (fail)
     go_wp2
     go_ret
     exact⟨rfl,_,World.drewN_drewN _ _ _⟩
   ·obtain rfl:k=r.length:=by omega
    have e:ANS=true:=by rw[←hans,List.drop_of_length_le (ah _),hlen,List.drop_of_length_le (ah _)];rfl
    subst e
    go_wp2_with fail
    go_ret
    first|exact⟨rfl,_,rfl⟩|exact⟨rfl,_,World.drewN_drewN _ _ _⟩
 ·have hq:((r.length:Int)==(q.length:Int))=false:=by simpa using(fun e=>hlen (by omega))
  have e:decide (r=q)=false:=an (fun e=>hlen (by rw[e]));rw[e]
  go_enter Tryz.func65,Tryz.ntmps65
  go_wp2_with fail
  go_ret
  exact⟨rfl,0,rfl⟩
end Go.Proofs.YtfhghdcbofbceaaGreatDoor
