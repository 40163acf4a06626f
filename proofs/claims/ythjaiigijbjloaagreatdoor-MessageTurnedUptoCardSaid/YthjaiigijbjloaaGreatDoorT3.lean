/- Tab, MsP, MsO, MsQ. -/
import Derived.MapKept
import Derived.Deep.Cut
import Derived.Test.YthjaiigijbjloaaGreatDoorT2
namespace Go.Proofs.YthjaiigijbjloaaGreatDoor
open Go.RowKit Go.Lib
set_option maxRecDepth 100000
set_option maxHeartbeats 16000000
def fp (a : Act) (o : Oper) : Value := match o.dst with | some d => a.tmps.getD d undef | none => undef
theorem qV {a : Act} {o : Oper} {v : Value} (hd : ∀ d, o.dst = some d → d < a.tmps.size) : fp (a.put o.dst v) o = match o.dst with | some _ => v | none => undef := by
 unfold fp Act.put;cases h : o.dst with
 | none => rfl
 | some d => simp [hd d h]
theorem nN {a : Act} {o o' : Oper} {v : Value} (h : ∀ d, o.dst = some d → o'.dst ≠ some d) : fp (a.put o.dst v) o' = fp a o' := by
 unfold fp Act.put;cases h1 : o.dst with
 | none => rfl
 | some d =>
  cases h2 : o'.dst with
  | none => rfl
  | some d' =>
   have : d ≠ d' := fun e => h d h1 (e ▸ h2)
   simp [this]
theorem ox {a : Act} {o : Oper} {d : Nat} (hd : o.dst = some d) (hl : d < a.tmps.size) : a.tmps[d]? = some (fp a o) := by
 unfold fp;rw [hd]
 simp [hl]
def kI (md : Region.Mode) (n : Nat) (ops : Array Oper) : Bool :=
 (List.range ops.size).all fun i => match ops[i]? with
  | none => false
  | some o => o.guard.isNone && (o.after.toList.all fun e => !Region.binds md e || decide (e.on < i)) && (match o.dst with | none => true | some d => decide (d < n) && ((List.range ops.size).all fun j => decide (j = i) || (match ops[j]? with | none => true | some o' => !(o'.dst == some d))))
theorem iP {md : Region.Mode} {n : Nat} {ops : Array Oper} (h : kI md n ops = true) {i : Nat} {o : Oper} (ho : ops[i]? = some o) :
  o.guard = none ∧ (∀ e ∈ o.after, Region.binds md e = true → e.on < i) ∧ ∀ d, o.dst = some d → d < n ∧ ∀ j o', ops[j]? = some o' → j ≠ i → o'.dst ≠ some d := by
 unfold kI at h;rw [List.all_eq_true] at h;have hi : i < ops.size := (gl ho);have h1 := h i (List.mem_range.2 hi);rw [ho] at h1;simp only [aI, Option.isNone_iff_eq_none, List.all_eq_true, Bool.or_eq_true, Bool.not_eq_true', aT] at h1;refine ⟨h1.1.1, fun e he hb => ?_, fun d hd => ?_⟩
 ·rcases h1.1.2 e (by simpa using he) with q | q
  ·rw [hb] at q; cases q
  ·exact q
 ·have h2 := h1.2
  rw [hd] at h2;simp only [aI, aT, List.all_eq_true, Bool.or_eq_true] at h2;refine ⟨h2.1, fun j o' hj hji he => ?_⟩;have hjl : j < ops.size := (gl hj);rcases h2.2 j (List.mem_range.2 hjl) with q | q
  ·exact hji q
  ·rw [hj] at q
   simp [he] at q
theorem pw {P : Program} {md : Region.Mode} {ops : Array Oper} {Q : Exit → Act → World → Prop} (n : Nat) (hok : kI md n ops = true)
  (G : Nat → Value → World → Prop) (H : World → World → Prop) (B : Array Bool → Act → World → Prop)
  (hG : ∀ i v w w', H w w' → G i v w → G i v w')
  (hstep : ∀ (i : Nat) (o : Oper) (listed : Array Bool) (a : Act) (w : World), ops[i]? = some o → listed.getD i true = false → listed.size = ops.size → a.tmps.size = n → B listed a w →
   (∀ (j : Nat) (o' : Oper), ops[j]? = some o' → listed.getD j false = true → G j (fp a o') w) → (∀ e ∈ o.after, Region.binds md e = true → listed.getD e.on false = true) →
   ∀ K' : Act → World → Prop, (∀ (v : Value) (w' : World), G i (match o.dst with | some _ => v | none => undef) w' → H w w' → B (listed.setIfInBounds i true) (a.put o.dst v) w' → K' (a.put o.dst v) w') → Oper.wp P o a w K' Q)
  (a : Act) (w : World) (hn : a.tmps.size = n) (hB : B (Array.replicate ops.size false) a w)
  (hdone : ∀ (listed : Array Bool) (a : Act) (w : World), (∀ i, i < ops.size → listed.getD i false = true) → a.tmps.size = n → B listed a w → (∀ (j : Nat) (o' : Oper), ops[j]? = some o' → G j (fp a o') w) → Q .normal a w) :
  wpAny P md ops Q ops.size (Array.replicate ops.size false) a w := by
 have hput : ∀ (a : Act) (d : Option Tmp) (v : Value), (a.put d v).tmps.size = a.tmps.size := by
  intro a d v;cases d <;> simp [Act.put]
 refine qD (fun listed a w => a.tmps.size = n ∧ B listed a w ∧ ∀ (j : Nat) (o' : Oper), ops[j]? = some o' → listed.getD j false = true → G j (fp a o') w) (fun i o ho => (iP hok ho).2.1) ?_ ?_ ops.size _ a w (by simp) ?_ ⟨hn, hB, ?_⟩
 ·intro listed a w hall ⟨h1, h2, h3⟩
  exact hdone listed a w hall h1 h2 (fun j o' hj => h3 j o' hj (hall j (gl hj)))
 ·intro i o listed a w ho hi hsz hall ⟨h1, h2, h3⟩
  obtain ⟨hgd, _, hds⟩ := iP hok ho;have hil : i < ops.size := (gl ho);refine s5 ho (by simp [Region.wanted, hgd]) fun K' hK' => ?_
  refine hstep i o listed a w ho hi hsz h1 h2 h3 hall K' (fun v w' hv hH hB' => hK' _ _ ⟨(hput _ _ _).trans h1, hB', fun j o' hj hl => ?_⟩)
  by_cases hji : j = i
  ·subst hji
   rw [ho] at hj;cases hj;rw [qV (fun d hd => by rw [h1]; exact (hds d hd).1)];exact hv
  ·have hl' : listed.getD j false = true := by
    simpa [Array.getElem?_setIfInBounds, Ne.symm hji] using hl
   rw [nN (fun d hd => (hds d hd).2 j o' hj hji)];exact hG _ _ _ _ hH (h3 j o' hj hl')
 ·simp [gJ]
 ·intro j o' hj hl
  have := (gl hj)
  simp [this] at hl
/-! The operations one by one. -/
theorem jS {P : Program} {o : Oper} {a : Act} {w w' : World} {K : Act → World → Prop} {Q : Exit → Act → World → Prop} {v : Value} (hr : (execOp a.eval o).run P w = .ok (.value v) w') (h : K (a.put o.dst v) w') : Oper.wp P o a w K Q := by
 unfold Oper.wp;rw [hr];exact h
theorem sj {P : Program} {o : Oper} {a : Act} {w : World} {K : Act → World → Prop} {Q : Exit → Act → World → Prop} {f : FuncId} {args : Array Value} (hr : (execOp a.eval o).run P w = .ok (.enter f args) w) (h : Calls P f args w fun e w' => ∃ v, e = .returned v ∧ K (a.put o.dst v) w') : Oper.wp P o a w K Q := by
 unfold Oper.wp;rw [hr, Oper.upon_enter];refine h.mono ?_;rintro e w' ⟨v, rfl, hk⟩;exact hk
/-! A map that the region fills. -/
theorem jT {P : Program} (w : World) (mty kt et : TypeId) (r clock : Nat) (es : Array MapEntry) (k : Int) (z : Value) (hm : P.underlying mty = some (.map kt et)) (hk : P.underlying kt = some (.int .i64)) (hb : w.heap[r]? = some (.map es clock))
  (hint : ∀ x ∈ es.toList, ∃ k', x.key = .int .i64 k') (hz : (zeroValue et).run P w = .ok z w) :
  (∃ x, x ∈ es.toList ∧ x.key = .int .i64 k ∧ (Instr.lookup mty (.map (some r)) (.int .i64 k) true).run P w = .ok (.tuple #[x.val, .bool true]) w) ∨
   ((∀ x ∈ es.toList, x.key ≠ .int .i64 k) ∧ (Instr.lookup mty (.map (some r)) (.int .i64 k) true).run P w = .ok (.tuple #[z, Bf]) w) := by
 have hkey : ∀ j : Int, MapKept.IsKey (.int .i64) (.int .i64 j) := fun j => by simp [MapKept.IsKey]
 have hc : (Instr.checkKey es.isEmpty 10000 kt (.int .i64 k)).run P w = .ok () w := MapKept.run_checkKey (k := .int .i64 k) hk (hkey k) es.isEmpty 9999;rcases MapKept.findNow_spec (hkey k) es.toList 0 (fun x hx => by obtain ⟨k', e⟩ := hint x hx; rw [e]; exact hkey k') with ⟨h1, h2⟩ | ⟨j, e, h1, h2, h3⟩
 ·refine .inr ⟨h2, ?_⟩
  simp [Instr.lookup, run_underlying hm, MapKept.run_getObj_map hb, hc, MapKept.run_findKey hk h1, hz, Result.andThen]
 ·refine .inl ⟨e, List.mem_of_getElem? h2, h3, ?_⟩
  simp [Instr.lookup, run_underlying hm, MapKept.run_getObj_map hb, hc, MapKept.run_findKey hk h1, Result.andThen]
def ey (L : List (Nat × Int)) (V : Nat → Value → World → Prop) (listed : Nat → Bool) (r : Nat) (w : World) : Prop :=
 ∃ es c, w.heap[r]? = some (.map es c) ∧ (∀ x ∈ es.toList, ∃ p, p ∈ L ∧ listed p.1 = true ∧ x.key = .int .i64 p.2 ∧ V p.1 x.val w) ∧ ∀ p ∈ L, listed p.1 = true → ∃ x, x ∈ es.toList ∧ x.key = .int .i64 p.2
theorem ey.keep {L : List (Nat × Int)} {V : Nat → Value → World → Prop} {listed listed' : Nat → Bool} {r : Nat} {w w' : World} (h : ey L V listed r w) (hr : w'.heap[r]? = w.heap[r]?) (hV : ∀ i v, V i v w → V i v w') (hl : ∀ p ∈ L, listed' p.1 = listed p.1) : ey L V listed' r w' := by
 obtain ⟨es, c, h1, h2, h3⟩ := h;refine ⟨es, c, hr.trans h1, fun x hx => ?_, fun p hp hlp => h3 p hp (by rw [← hl p hp]; exact hlp)⟩;obtain ⟨p, hp, hq, hk, hv⟩ := h2 x hx;exact ⟨p, hp, (hl p hp).trans hq, hk, hV _ _ hv⟩
theorem kJ {P : Program} {L : List (Nat × Int)} {V : Nat → Value → World → Prop} {listed : Nat → Bool} {r : Nat} {w : World} (mty kt et : TypeId) (i : Nat) (k : Int) (val : Value) (hm : P.underlying mty = some (.map kt et)) (hk : P.underlying kt = some (.int .i64))
  (h : ey L V listed r w) (hi : (i, k) ∈ L) (hinj : ∀ p ∈ L, p.2 = k → p.1 = i) (hdist : ∀ p ∈ L, p.1 = i → p.2 = k) (hn : listed i = false) (hV : ∀ i v w w', Hk w w' → V i v w → V i v w') (hval : V i val w) :
  ∃ w', (Instr.mapUpdate mty (.map (some r)) (.int .i64 k) val).run P w = .ok () w' ∧ ey L V (fun j => if j = i then true else listed j) r w' ∧ w'.heap.size = w.heap.size ∧ (∀ j, j ≠ r → w'.heap[j]? = w.heap[j]?) ∧ w'.os = w.os ∧ w'.tape = w.tape ∧ w'.output = w.output ∧ Hk w w' := by
 obtain ⟨es, c, h1, h2, h3⟩ := h;have hkey : ∀ j : Int, MapKept.IsKey (.int .i64) (.int .i64 j) := fun j => by simp [MapKept.IsKey]
 have hnone : Instr.findNow (.int .i64) (.int .i64 k) es.toList 0 = some none := by
  rcases MapKept.findNow_spec (hkey k) es.toList 0 (fun x hx => by obtain ⟨p, _, _, e, _⟩ := h2 x hx; rw [e]; exact hkey p.2) with ⟨q, _⟩ | ⟨j, e, _, q2, q3⟩
  ·exact q
  ·exfalso
   obtain ⟨p, hp, hq, e', _⟩ := h2 e (List.mem_of_getElem? q2);rw [q3] at e'
   injection e' with _ e''
   have := hinj p hp e''.symm;rw [this, hn] at hq;cases hq
 obtain ⟨w', hr, hb, hs, ho, e1, e2, e3⟩ := oE w mty kt et r c es k val hm hk h1 hnone;have hH : Hk w w' := Hk.map h1 ho;refine ⟨w', hr, ⟨_, _, hb, fun x hx => ?_, fun p hp hl => ?_⟩, hs, ho, e1, e2, e3, hH⟩
 ·simp only [Array.toList_push, List.mem_append, List.mem_singleton] at hx
  rcases hx with hx | rfl
  ·obtain ⟨p, hp, hq, e, hv⟩ := h2 x hx
   exact ⟨p, hp, by simp [hq], e, hV _ _ _ _ hH hv⟩
  ·exact ⟨(i, k), hi, by simp, rfl, hV _ _ _ _ hH hval⟩
 ·by_cases hpi : p.1 = i
  ·have hp2 : p = (i, p.2) := by rw [← hpi]
   by_cases hpk : p.2 = k
   ·exact ⟨_, by rw [Array.toList_push]; exact List.mem_append_right _ (List.mem_singleton.2 rfl), by rw [hpk]⟩
   ·simp only [hpi, if_true] at hl
    by_cases hli : listed p.1 = true
    ·rw [hpi, hn] at hli; cases hli
    ·exact absurd (hdist p hp hpi) hpk
  ·simp only [hpi, if_false] at hl
   obtain ⟨x, hx, e⟩ := h3 p hp hl;exact ⟨x, by simp [hx], e⟩
def eM (l : List El) (v : Value) (w : World) : Prop := ∃ u, v = .agg (elA (.mk 0 16 true [] l) u) ∧ bf (fun _ => True) w u l
def fc (l : List El) (v : Value) (w : World) : Prop := ∃ b u, v = .func (.func 115) #[] #[.pointer (some ⟨b, 0, none⟩)] ∧ w.cell? ⟨b, 0, none⟩ = some u ∧ bf (fun _ => True) w u l
theorem eM.hk {l : List El} {v : Value} {w w' : World} (h : eM l v w) (k : Hk w w') : eM l v w' := by
 obtain ⟨u, e, q⟩ := h;exact ⟨u, e, q.hk k⟩
theorem fc.hk {l : List El} {v : Value} {w w' : World} (h : fc l v w) (k : Hk w w') : fc l v w' := by
 obtain ⟨b, u, e, hc, q⟩ := h;exact ⟨b, u, e, k.2 _ _ _ hc, q.hk k⟩
structure OpX where
 M : Nat
 dn : List UInt8
 typ : List UInt8
 value : List UInt8
 vm : Value
 va : Value
 lm : List El
 la : List El
def opL : List (Nat × Int) := [(2, 0), (3, 2), (5, 3), (15, 6), (25, 8), (35, 4), (37, 10), (39, 12), (54, 14), (56, 16), (58, 23)]
def opV (x : OpX) : Nat → Value → World → Prop
 | 2, v, _ => v = .func (.func 116) #[] #[.pointer (some ⟨x.M, 0, none⟩)]
 | 3, v, _ => v = .func (.func 117) #[] #[]
 | 5, v, _ => v = .func (.func 118) #[] #[.pointer (some ⟨x.M, 0, none⟩)]
 | 15, v, w => fc [(.mk 0 4 false x.dn []), .mk 0 16 true [] x.lm] v w
 | 25, v, w => fc [(.mk 0 4 false x.dn []), .mk 0 16 true [] x.la] v w
 | 35, v, w => fc [(.mk 0 4 false x.dn []), .mk 0 16 true [] x.la] v w
 | 37, v, _ => v = .func (.func 123) #[] #[.pointer (some ⟨x.M, 0, none⟩)]
 | 39, v, _ => v = .func (.func 124) #[] #[.pointer (some ⟨x.M, 0, none⟩)]
 | 54, v, w => fc [(.mk 0 4 false x.dn []), .mk 0 16 true [] [(.mk 0 4 false x.typ []), (.mk 0 4 false x.value [])]] v w
 | 56, v, _ => v = .func (.func 125) #[] #[.pointer (some ⟨x.M, 0, none⟩)]
 | 58, v, _ => v = .func (.func 126) #[] #[.pointer (some ⟨x.M, 0, none⟩)]
 | _, _, _ => True
def opG (x : OpX) : Nat → Value → World → Prop
 | 1, v, _ => v = .func (.func 116) #[] #[.pointer (some ⟨x.M, 0, none⟩)]
 | 4, v, _ => v = .func (.func 118) #[] #[.pointer (some ⟨x.M, 0, none⟩)]
 | 6, v, _ => v = .func (.func 114) #[] #[]
 | 7, v, _ => v = .pointer (some ⟨x.M, 2, none⟩)
 | 8, v, _ => v = .string ⟨x.dn.toArray⟩
 | 9, v, _ => v = .agg (elA (.mk 0 4 false x.dn []) (Sn))
 | 10, v, _ => v = .pointer (some ⟨x.M, 13, none⟩)
 | 11, v, _ => v = x.vm
 | 12, v, w => eM x.lm v w
 | 13, v, w => bf (fun _ => True) w v [(.mk 0 4 false x.dn []), .mk 0 16 true [] x.lm]
 | 14, v, w => fc [(.mk 0 4 false x.dn []), .mk 0 16 true [] x.lm] v w
 | 16, v, _ => v = .func (.func 114) #[] #[]
 | 17, v, _ => v = .pointer (some ⟨x.M, 2, none⟩)
 | 18, v, _ => v = .string ⟨x.dn.toArray⟩
 | 19, v, _ => v = .agg (elA (.mk 0 4 false x.dn []) (Sn))
 | 20, v, _ => v = .pointer (some ⟨x.M, 14, none⟩)
 | 21, v, _ => v = x.va
 | 22, v, w => eM x.la v w
 | 23, v, w => bf (fun _ => True) w v [(.mk 0 4 false x.dn []), .mk 0 16 true [] x.la]
 | 24, v, w => fc [(.mk 0 4 false x.dn []), .mk 0 16 true [] x.la] v w
 | 26, v, _ => v = .func (.func 114) #[] #[]
 | 27, v, _ => v = .pointer (some ⟨x.M, 2, none⟩)
 | 28, v, _ => v = .string ⟨x.dn.toArray⟩
 | 29, v, _ => v = .agg (elA (.mk 0 4 false x.dn []) (Sn))
 | 30, v, _ => v = .pointer (some ⟨x.M, 14, none⟩)
 | 31, v, _ => v = x.va
 | 32, v, w => eM x.la v w
 | 33, v, w => bf (fun _ => True) w v [(.mk 0 4 false x.dn []), .mk 0 16 true [] x.la]
 | 34, v, w => fc [(.mk 0 4 false x.dn []), .mk 0 16 true [] x.la] v w
 | 36, v, _ => v = .func (.func 123) #[] #[.pointer (some ⟨x.M, 0, none⟩)]
 | 38, v, _ => v = .func (.func 124) #[] #[.pointer (some ⟨x.M, 0, none⟩)]
 | 40, v, _ => v = .func (.func 114) #[] #[]
 | 41, v, _ => v = .pointer (some ⟨x.M, 2, none⟩)
 | 42, v, _ => v = .string ⟨x.dn.toArray⟩
 | 43, v, _ => v = .agg (elA (.mk 0 4 false x.dn []) (Sn))
 | 44, v, _ => v = .pointer (some ⟨x.M, 19, none⟩)
 | 45, v, _ => v = .string ⟨x.typ.toArray⟩
 | 46, v, _ => v = .agg (elA (.mk 0 4 false x.typ []) (Sn))
 | 47, v, _ => v = .pointer (some ⟨x.M, 20, none⟩)
 | 48, v, _ => v = .string ⟨x.value.toArray⟩
 | 49, v, _ => v = .agg (elA (.mk 0 4 false x.value []) (Sn))
 | 50, v, w => bf (fun _ => True) w v [(.mk 0 4 false x.typ []), (.mk 0 4 false x.value [])]
 | 51, v, w => eM [(.mk 0 4 false x.typ []), (.mk 0 4 false x.value [])] v w
 | 52, v, w => bf (fun _ => True) w v [(.mk 0 4 false x.dn []), .mk 0 16 true [] [(.mk 0 4 false x.typ []), (.mk 0 4 false x.value [])]]
 | 53, v, w => fc [(.mk 0 4 false x.dn []), .mk 0 16 true [] [(.mk 0 4 false x.typ []), (.mk 0 4 false x.value [])]] v w
 | 55, v, _ => v = .func (.func 125) #[] #[.pointer (some ⟨x.M, 0, none⟩)]
 | 57, v, _ => v = .func (.func 126) #[] #[.pointer (some ⟨x.M, 0, none⟩)]
 | 59, v, w => ∃ r, v = .map (some r) ∧ ey opL (opV x) (fun _ => true) r w
 | 60, v, w => ∃ r, v = .map (some r) ∧ ey opL (opV x) (fun _ => true) r w
 | _, _, _ => True
theorem jn (x : OpX) : ∀ (i : Nat) (v : Value) (w w' : World), Hk w w' → opV x i v w → opV x i v w' := by
 intro i v w w' k h;unfold opV at h ⊢
 split at h
 all_goals first
  | exact h
  | exact fc.hk h k
  | trivial
def opH (x : OpX) (w w' : World) : Prop := Hk w w' ∧ ∀ r, ey opL (opV x) (fun _ => true) r w → ey opL (opV x) (fun _ => true) r w'
theorem jo (x : OpX) {w w' : World} (h : Below w.heap.size w w') : opH x w w' :=
 ⟨Hk.below h, fun r hr => hr.keep (by obtain ⟨es, c, hb, _⟩ := hr; exact h.block r (gl hb)) (fun i v q => jn x i v _ _ (Hk.below h) q) (fun _ _ => rfl)⟩
theorem sn (x : OpX) : ∀ (i : Nat) (v : Value) (w w' : World), opH x w w' → opG x i v w → opG x i v w' := by
 intro i v w w' k h;unfold opG at h ⊢
 split at h
 all_goals first
  | exact h
  | exact fc.hk h k.1
  | exact eM.hk h k.1
  | exact bf.hk h k.1
  | (obtain ⟨r, e, hr⟩ := h; exact ⟨r, e, k.2 r hr⟩)
  | trivial
def opB (x : OpX) (E : Value) (w0 : World) (listed : Array Bool) (a : Act) (w : World) : Prop :=
 a.tmps[1]? = some (.pointer (some ⟨x.M, 0, none⟩)) ∧ a.tmps[2]? = some E ∧ a.tmps[3]? = some (.func (.func 114) #[] #[]) ∧ a.defers = [] ∧ Below w0.heap.size w0 w ∧ (∀ p ∈ opL, listed.getD p.1 false = true → listed.getD 0 false = true) ∧
  (listed.getD 0 false = true → ∃ r, a.tmps[7]? = some (.map (some r)) ∧ w0.heap.size ≤ r ∧ ey opL (opV x) (fun j => listed.getD j false) r w)
abbrev HKt (x : OpX) (E : Value) (w0 : World) (o : Oper) (listed : Array Bool) (a : Act) (w : World) (K : Act → World → Prop) (i : Nat) : Prop := ∀ (v : Value) (w' : World), opG x i (match o.dst with | some _ => v | none => undef) w' → opH x w w' → opB x E w0 (listed.setIfInBounds i true) (a.put o.dst v) w' → K (a.put o.dst v) w'
theorem mM (x : OpX) {E : Value} {w0 : World} {listed : Array Bool} {a : Act} {w w' : World} {i : Nat} {o : Oper} {v : Value} (h : opB x E w0 listed a w) (hd : o.dst ≠ some 1 ∧ o.dst ≠ some 2 ∧ o.dst ≠ some 3 ∧ o.dst ≠ some 7) (hi : i ≠ 0 ∧ ∀ p ∈ opL, p.1 ≠ i) (hb : Below w.heap.size w w') :
  opB x E w0 (listed.setIfInBounds i true) (a.put o.dst v) w' := by
 have hp : ∀ d, o.dst ≠ some d → (a.put o.dst v).tmps[d]? = a.tmps[d]? := by
  intro d hd';unfold Act.put;cases h1 : o.dst with
  | none => rfl
  | some d1 =>
   have : d1 ≠ d := fun e => hd' (by rw [h1, e])
   simp [this]
 have hl : ∀ j, j ≠ i → (listed.setIfInBounds i true).getD j false = listed.getD j false := by
  intro j hj
  simp [Ne.symm hj]
 obtain ⟨h1, h2, h3, h4, h5, h7, h6⟩ := h;refine ⟨(hp 1 hd.1).trans h1, (hp 2 hd.2.1).trans h2, (hp 3 hd.2.2.1).trans h3, ?_, h5.trans (hb.mono h5.size), fun p hp' q => (hl 0 (Ne.symm hi.1)).trans (h7 p hp' ((hl p.1 (hi.2 p hp')).symm.trans q)), fun q => ?_⟩
 ·unfold Act.put
  cases o.dst <;> exact h4
 ·rw [hl 0 (Ne.symm hi.1)] at q
  obtain ⟨r, e, hr, hm⟩ := h6 q;refine ⟨r, (hp 7 hd.2.2.2).trans e, hr, hm.keep ?_ (fun i v q => jn x i v _ _ (Hk.below hb) q) (fun p hp' => hl p.1 (hi.2 p hp'))⟩;obtain ⟨es, c, hbk, _⟩ := hm;exact hb.block r (gl hbk)
def opT : List (Op × Option Tmp) := [
 (.makeMap 148 none, some 7),
 (.makeFunc (.func 116) #[] #[.tmp 1], some 8),
 (.insert 148 (.tmp 7) (.const (I0)) (.tmp 8), none),
 (.insert 148 (.tmp 7) (.const (.int .i64 2)) (.func 117), none),
 (.makeFunc (.func 118) #[] #[.tmp 1], some 9),
 (.insert 148 (.tmp 7) (.const (.int .i64 3)) (.tmp 9), none),
 (.move (.tmp 3), some 10),
 (.fieldAddr 28 (.tmp 1) 2, some 11),
 (.load 9 (.tmp 11), some 12),
 (.call { callee := .value (.func 74), args := #[.tmp 12], argTypes := #[9] }, some 13),
 (.fieldAddr 28 (.tmp 1) 13, some 14),
 (.load 24 (.tmp 14), some 15),
 (.call { callee := .value (.func 121), args := #[.tmp 15], argTypes := #[24] }, some 16),
 (.buildSlice 43 2 #[(0, .tmp 13), (1, .tmp 16)], some 17),
 (.call { callee := .value (.tmp 10), args := #[.tmp 17], argTypes := #[43] }, some 18),
 (.insert 148 (.tmp 7) (.const (.int .i64 6)) (.tmp 18), none),
 (.move (.tmp 3), some 19),
 (.fieldAddr 28 (.tmp 1) 2, some 20),
 (.load 9 (.tmp 20), some 21),
 (.call { callee := .value (.func 74), args := #[.tmp 21], argTypes := #[9] }, some 22),
 (.fieldAddr 28 (.tmp 1) 14, some 23),
 (.load 25 (.tmp 23), some 24),
 (.call { callee := .value (.func 122), args := #[.tmp 24], argTypes := #[25] }, some 25),
 (.buildSlice 43 2 #[(0, .tmp 22), (1, .tmp 25)], some 26),
 (.call { callee := .value (.tmp 19), args := #[.tmp 26], argTypes := #[43] }, some 27),
 (.insert 148 (.tmp 7) (.const (.int .i64 8)) (.tmp 27), none),
 (.move (.tmp 3), some 28),
 (.fieldAddr 28 (.tmp 1) 2, some 29),
 (.load 9 (.tmp 29), some 30),
 (.call { callee := .value (.func 74), args := #[.tmp 30], argTypes := #[9] }, some 31),
 (.fieldAddr 28 (.tmp 1) 14, some 32),
 (.load 25 (.tmp 32), some 33),
 (.call { callee := .value (.func 122), args := #[.tmp 33], argTypes := #[25] }, some 34),
 (.buildSlice 43 2 #[(0, .tmp 31), (1, .tmp 34)], some 35),
 (.call { callee := .value (.tmp 28), args := #[.tmp 35], argTypes := #[43] }, some 36),
 (.insert 148 (.tmp 7) (.const (.int .i64 4)) (.tmp 36), none),
 (.makeFunc (.func 123) #[] #[.tmp 1], some 37),
 (.insert 148 (.tmp 7) (.const (.int .i64 10)) (.tmp 37), none),
 (.makeFunc (.func 124) #[] #[.tmp 1], some 38),
 (.insert 148 (.tmp 7) (.const (.int .i64 12)) (.tmp 38), none),
 (.move (.tmp 3), some 39),
 (.fieldAddr 28 (.tmp 1) 2, some 40),
 (.load 9 (.tmp 40), some 41),
 (.call { callee := .value (.func 74), args := #[.tmp 41], argTypes := #[9] }, some 42),
 (.fieldAddr 28 (.tmp 1) 19, some 43),
 (.load 9 (.tmp 43), some 44),
 (.call { callee := .value (.func 74), args := #[.tmp 44], argTypes := #[9] }, some 45),
 (.fieldAddr 28 (.tmp 1) 20, some 46),
 (.load 9 (.tmp 46), some 47),
 (.call { callee := .value (.func 74), args := #[.tmp 47], argTypes := #[9] }, some 48),
 (.buildSlice 43 2 #[(0, .tmp 45), (1, .tmp 48)], some 49),
 (.call { callee := .value (.func 76), args := #[.tmp 49], argTypes := #[43] }, some 50),
 (.buildSlice 43 2 #[(0, .tmp 42), (1, .tmp 50)], some 51),
 (.call { callee := .value (.tmp 39), args := #[.tmp 51], argTypes := #[43] }, some 52),
 (.insert 148 (.tmp 7) (.const (.int .i64 14)) (.tmp 52), none),
 (.makeFunc (.func 125) #[] #[.tmp 1], some 53),
 (.insert 148 (.tmp 7) (.const (.int .i64 16)) (.tmp 53), none),
 (.makeFunc (.func 126) #[] #[.tmp 1], some 54),
 (.insert 148 (.tmp 7) (.const (.int .i64 23)) (.tmp 54), none),
 (.move (.tmp 7), some 55),
 (.assign (.tmp 55), some 4)]
def ma (ops : Array Oper) (i j : Nat) : Bool := match ops[i]? with | none => false | some o => o.after.toList.any fun e => Region.binds .any e && (e.on == j)
theorem so {ops : Array Oper} {i j : Nat} {o : Oper} (h : ma ops i j = true) (ho : ops[i]? = some o) {listed : Array Bool} (hall : ∀ e ∈ o.after, Region.binds .any e = true → listed.getD e.on false = true) : listed.getD j false = true := by
 unfold ma at h;rw [ho] at h;simp only [List.any_eq_true, aI, beq_iff_eq] at h;obtain ⟨e, he, hb, rfl⟩ := h;exact hall e (by simpa using he) hb
def opW : List (Nat × Nat) := [(2, 0), (2, 1), (3, 0), (5, 0), (5, 4), (8, 7), (9, 8), (11, 10), (12, 11), (13, 9), (13, 12), (14, 6), (14, 13), (15, 0), (15, 14), (18, 17), (19, 18), (21, 20), (22, 21), (23, 19), (23, 22), (24, 16), (24, 23), (25, 0), (25, 24), (28, 27), (29, 28), (31, 30), (32, 31), (33, 29), (33, 32), (34, 26), (34, 33), (35, 0), (35, 34), (37, 0), (37, 36), (39, 0), (39, 38), (42, 41), (43, 42), (45, 44), (46, 45), (48, 47), (49, 48), (50, 46), (50, 49), (51, 50), (52, 43), (52, 51), (53, 40), (53, 52), (54, 0), (54, 53), (56, 0), (56, 55), (58, 0), (58, 57), (59, 0), (59, 2), (59, 3), (59, 5), (59, 15), (59, 25), (59, 35), (59, 37), (59, 39), (59, 54), (59, 56), (59, 58), (60, 59)]
structure OpC (x : OpX) (E : Value) (w0 : World) (ops : Array Oper) (i : Nat) (o : Oper) (listed : Array Bool) (a : Act) (w : World) : Prop where
 ho : ops[i]? = some o
 hi : listed.getD i true = false
 hsz : listed.size = ops.size
 hn : a.tmps.size = 74
 hB : opB x E w0 listed a w
 hg : ∀ (j : Nat) (o' : Oper), ops[j]? = some o' → listed.getD j false = true → opG x j (fp a o') w
 hall : ∀ e ∈ o.after, Region.binds .any e = true → listed.getD e.on false = true
 hok : kI .any 74 ops = true
 htab : ops.toList.map (fun o => (o.op, o.dst)) = opT
 hwt : (opW.all fun p => ma ops p.1 p.2) = true
theorem bu {a : Act} {d : Nat} {v : Value} (h : a.tmps[d]? = some v) : a.eval (.tmp d) = v := by
 show a.tmps.getD d undef = v
 simp [h]
theorem bx {ops : Array Oper} {T : List (Op × Option Tmp)} (h : ops.toList.map (fun o => (o.op, o.dst)) = T) {i : Nat} {o : Oper} (ho : ops[i]? = some o) : T[i]? = some (o.op, o.dst) := by
 rw [← h]
 simp [ho]
theorem mN {ops : Array Oper} {T : List (Op × Option Tmp)} (h : ops.toList.map (fun o => (o.op, o.dst)) = T) {i : Nat} {p : Op} {d : Option Tmp} (ht : T[i]? = some (p, d)) : ∃ o, ops[i]? = some o ∧ o.op = p ∧ o.dst = d := by
 rw [← h] at ht;simp only [List.getElem?_map, aC, Array.getElem?_toList] at ht;obtain ⟨o, ho, e⟩ := ht;exact ⟨o, ho, congrArg Prod.fst e, congrArg Prod.snd e⟩
section
variable {x : OpX} {E : Value} {w0 : World} {ops : Array Oper} {i : Nat} {o : Oper} {listed : Array Bool} {a : Act} {w : World} {Q : Exit → Act → World → Prop} {K : Act → World → Prop}
theorem OpC.came (c : OpC x E w0 ops i o listed a w) {j : Nat} (hm : (i, j) ∈ opW) : listed.getD j false = true :=
 so (List.all_eq_true.1 c.hwt (i, j) hm) c.ho c.hall
theorem OpC.dep (c : OpC x E w0 ops i o listed a w) {j d : Nat} {p : Op} (hm : (i, j) ∈ opW) (ht : opT[j]? = some (p, some d)) : ∃ v, a.tmps[d]? = some v ∧ opG x j v w := by
 obtain ⟨o', ho', _, hd⟩ := mN c.htab ht;exact ⟨_, ox hd (by rw [c.hn]; exact ((iP c.hok ho').2.2 d hd).1), c.hg j o' ho' (c.came hm)⟩
theorem OpC.value (c : OpC x E w0 ops i o listed a w) {d : Nat} {v : Value} {w' : World} (hd : o.dst = some d) (hd' : d ≠ 1 ∧ d ≠ 2 ∧ d ≠ 3 ∧ d ≠ 7) (hi : i ≠ 0 ∧ ∀ p ∈ opL, p.1 ≠ i)
  (hr : (execOp a.eval o).run Tryz.prog w = .ok (.value v) w') (hb : Below w.heap.size w w') (hv : opG x i v w')
  (hK : HKt x E w0 o listed a w K i) : Oper.wp Tryz.prog o a w K Q := by
 refine jS hr (hK v w' ?_ (jo x hb) (mM x c.hB ?_ hi hb))
 ·rw [hd]; exact hv
 ·rw [hd]; simpa using hd'
theorem OpC.enter (c : OpC x E w0 ops i o listed a w) {d : Nat} {f : FuncId} {args : Array Value} (hd : o.dst = some d) (hd' : d ≠ 1 ∧ d ≠ 2 ∧ d ≠ 3 ∧ d ≠ 7) (hi : i ≠ 0 ∧ ∀ p ∈ opL, p.1 ≠ i)
  (hr : (execOp a.eval o).run Tryz.prog w = .ok (.enter f args) w) (hv : Calls Tryz.prog f args w fun e w' => (∃ v, e = .returned v ∧ opG x i v w') ∧ Below w.heap.size w w')
  (hK : HKt x E w0 o listed a w K i) : Oper.wp Tryz.prog o a w K Q := by
 refine sj hr (hv.mono ?_);rintro e w' ⟨⟨v, rfl, hv⟩, hb⟩;refine ⟨v, rfl, hK v w' ?_ (jo x hb) (mM x c.hB ?_ hi hb)⟩
 ·rw [hd]; exact hv
 ·rw [hd]; simpa using hd'
end
theorem gj {P : Program} {ρ : Operand → Value} {o : Oper} {y : Operand} {v : Value} {w : World} (h : o.op = .move y) (hv : ρ y = v) : (execOp ρ o).run P w = .ok (.value v) w := by
 unfold execOp; rw [h, ← hv]; rfl
theorem nO {P : Program} {ρ : Operand → Value} {o : Oper} {y : Operand} {v : Value} {w : World} (h : o.op = .assign y) (hv : ρ y = v) : (execOp ρ o).run P w = .ok (.value v) w := by
 unfold execOp; rw [h, ← hv]; rfl
theorem eD {P : Program} {ρ : Operand → Value} {o : Oper} {fn : Fn} {y : Operand} {v : Value} {w : World} (h : o.op = .makeFunc fn #[] #[y]) (hv : ρ y = v) : (execOp ρ o).run P w = .ok (.value (.func fn #[] #[v])) w := by
 have hmf : ∀ (fn : Fn) (first cap : Array Value) (w : World), (Instr.makeFunc fn first cap).run P w = .ok (.func fn first cap) w := fun _ _ _ _ => rfl
 obtain ⟨dst, op, ty, pos, after, guard⟩ := o;simp only at h;subst h;subst hv;go_simp
theorem eq {ρ : Operand → Value} {o : Oper} {y : Operand} {M k : Nat} {w : World} (hk : k ∈ [1, 2, 13, 14, 19, 20]) (h : o.op = .fieldAddr 28 y k) (hv : ρ y = .pointer (some ⟨M, 0, none⟩)) : (execOp ρ o).run Tryz.prog w = .ok (.value (.pointer (some ⟨M, k, none⟩))) w := by
 obtain ⟨dst, op, ty, pos, after, guard⟩ := o;simp only at h;subst h;simp only [aY, aZ, or_false] at hk;rcases hk with rfl | rfl | rfl | rfl | rfl | rfl <;> go_simp
theorem eF {ρ : Operand → Value} {o : Oper} {y : Operand} {M k : Nat} {t : TypeId} {v : Value} {w : World} (ht : t = 9 ∨ t = 24 ∨ t = 25 ∨ t = 3) (h : o.op = .load t y) (hv : ρ y = .pointer (some ⟨M, k, none⟩)) (hc : w.cell? ⟨M, k, none⟩ = some v) : (execOp ρ o).run Tryz.prog w = .ok (.value v) w := by
 obtain ⟨dst, op, ty, pos, after, guard⟩ := o;simp only at h;subst h;rcases ht with rfl | rfl | rfl | rfl <;> go_simp
theorem dg {P : Program} {ρ : Operand → Value} {o : Oper} {y z : Operand} {t : TypeId} {f : FuncId} {cap : Array Value} {v : Value} {w : World} (h : o.op = .call { callee := .value y, args := #[z], argTypes := #[t] }) (hf : ρ y = .func (.func f) #[] cap) (hv : ρ z = v) (hc : ∀ args : Array Value, (callFunc f args).run P w = .ok (.enter f args) w) : (execOp ρ o).run P w = .ok (.enter f (#[v] ++ cap)) w := by
 obtain ⟨dst, op, ty, pos, after, guard⟩ := o;simp only at h;subst h;subst hv;go_simp
theorem cI (f : FuncId) (hf : f ∈ [74, 121, 122, 114, 76]) (args : Array Value) (w : World) : (callFunc f args).run Tryz.prog w = .ok (.enter f args) w := by
 simp only [aY, aZ, or_false] at hf;rcases hf with rfl | rfl | rfl | rfl | rfl <;> go_simp
theorem fZ {ρ : Operand → Value} {o : Oper} {y z : Operand} {e1 e2 : El} {a1 a2 : Option Addr} {n1 n2 c1 c2 : Nat} {w : World} (h : o.op = .buildSlice 43 2 #[(0, y), (1, z)]) (hy : ρ y = .agg (elA e1 (.slice a1 n1 c1))) (hz : ρ z = .agg (elA e2 (.slice a2 n2 c2))) :
  (execOp ρ o).run Tryz.prog w = .ok (.value (.slice (some ⟨w.heap.size, 0, none⟩) 2 2)) (w.alloc (.cells #[.int .i64 e1.cls, .int .i64 e1.tag, .bool e1.cons, .string ⟨e1.bytes.toArray⟩, .slice a1 n1 c1, .int .i64 e2.cls, .int .i64 e2.tag, .bool e2.cons, .string ⟨e2.bytes.toArray⟩, .slice a2 n2 c2] 45)) := by
 obtain ⟨dst, op, ty, pos, after, guard⟩ := o;simp only at h;subst h;simp only [elA] at hy hz;go_simp
theorem ic {P : Nat → Prop} {w : World} {g : Nat} {l : List El} {us : List Value} {cs : Array Value} {t : TypeId} {fr : Nat × Nat} (hb : w.heap[g]? = some (.cells cs t fr)) (hcs : cs.toList = cx l us) (hl : us.length = l.length)
  (hk : ∀ (j : Nat) (e : El) (u : Value), l[j]? = some e → us[j]? = some u → bf P w u e.kids) (hP : P g) : bf P w (.slice (some ⟨g, 0, none⟩) l.length l.length) l := by
 refine ⟨_, _, rfl, ah _, fun _ => ⟨g, 0, rfl, hP, cE.of l g 0 fun j e hj => ?_⟩⟩;have hjl : j < l.length := (List.getElem?_eq_some_iff.1 hj).1;obtain ⟨u, hu⟩ : ∃ u, us[j]? = some u := ⟨us[j]'(by omega), by simp [hl, hjl]⟩;obtain ⟨q0, q1, q2, q3, q4⟩ := iZ l us j e u hj hu;have hc : ∀ i, w.cell? ⟨g, i, none⟩ = (cx l us)[i]? := fun i => (ad hb i).trans (by rw [← hcs]; simp)
 rw [Nat.zero_add];exact ElC.mk ((hc _).trans q0) ((hc _).trans q1) ((hc _).trans q2) ((hc _).trans q3) ((hc _).trans q4) (hk j e u hj hu)
theorem bf.empty {P : Nat → Prop} {w : World} {v : Value} (h : bf P w v []) : ∃ a c, v = .slice a 0 c := by
 obtain ⟨a, c, rfl⟩ := h.shape;exact ⟨a, c, rfl⟩
theorem bf.no (P : Nat → Prop) (w : World) (a : Option Addr) (c : Nat) : bf P w (.slice a 0 c) [] := ⟨a, c, rfl, Nat.zero_le _, fun h => absurd rfl h⟩
theorem px (b v : Nat) (A : Array Value) (dn secret : List UInt8) (w : World) (hb : w.heap[b]? = some (.cells A 28 (0, 0))) (hv : v ≤ 127) (h2 : A[2]? = some (.string ⟨dn.toArray⟩)) (h3 : A[3]? = some (.int .i64 (v : Int))) (h4 : A[4]? = some (.bool false)) (h5 : A[5]? = some (.string ⟨secret.toArray⟩)) (hd : dn.length ≤ 1000000000) (hs : secret.length ≤ 1000000000) :
  Calls Tryz.prog 116 #[.pointer (some ⟨b, 0, none⟩)] w fun e w' => (∃ u, e = .returned (.agg (elA (.mk 0 16 true [] [.mk 0 2 false [UInt8.ofNat v] [], .mk 0 4 false dn [], .mk 2 0 false secret []]) u)) ∧ bf (fun g => w.heap.size ≤ g) w' u [.mk 0 2 false [UInt8.ofNat v] [], .mk 0 4 false dn [], .mk 2 0 false secret []]) ∧ Below w.heap.size w w' := by
 obtain ⟨PR, hPR⟩ : ∃ PR : Ending → World → Prop, PR = fun e w' => (∃ u, e = .returned (.agg (elA (.mk 0 16 true [] [.mk 0 2 false [UInt8.ofNat v] [], .mk 0 4 false dn [], .mk 2 0 false secret []]) u)) ∧ bf (fun g => w.heap.size ≤ g) w' u [.mk 0 2 false [UInt8.ofNat v] [], .mk 0 4 false dn [], .mk 2 0 false secret []]) ∧ Below w.heap.size w w' := ⟨_, rfl⟩
 rw [← hPR];have HPR := hid hPR;have G2 := hid h2;have G3 := hid h3;have G4 := hid h4;have G5 := hid h5;clear hPR h2 h3 h4 h5;have hbl := (gl hb);have b1 := alb w Ze 45;have t1 := alz w Ze 45;have m1 := (b1.block _ hbl).trans hb;clear hb
 go_enter Tryz.func116, Tryz.ntmps116
 go_upto_region 1 with fail
 generalize w.alloc (.cells Ze 45) = w1 at b1 t1 m1 ⊢;have q5 : w1.cell? ⟨b, 5, none⟩ = some (.string ⟨secret.toArray⟩) := (ad m1 5).trans G5.out;have k1 := bz secret w1
 go_wp2_with fail
 refine ag k1 ?_;rintro e w2 ⟨rfl, hb2⟩;have m2 := (hb2.block _ (gl m1)).trans m1;have t2 := (hb2.block _ (gl t1)).trans t1;have b2 := b1.trans (hb2.mono b1.size);clear k1 hb2 q5 b1 t1 m1;have k2 := dt (.mk 0 4 false secret []) (Sn) 0 w2 (bf.nil _ _) (by simp [SmE, SmL]; exact hs)
 go_wp2_with fail
 refine ag k2 ?_;rintro e w3 ⟨⟨u3, rfl, hu3⟩, hb3⟩;obtain ⟨a3, c3, rfl⟩ := hu3.empty;have m3 := (hb3.block _ (gl m2)).trans m2;have t3 := (hb3.block _ (gl t2)).trans t2;have b3 := b2.trans (hb3.mono b2.size);clear k2 hb3 hu3 b2 t2 m2;simp only [elA, El.cls, El.tag, El.cons, El.bytes];have g4 := alb w3 #[.int .i64 2, I0, Bf, .string ⟨secret.toArray⟩, .slice a3 0 c3] 45;have x4 := alz w3 #[.int .i64 2, I0, Bf, .string ⟨secret.toArray⟩, .slice a3 0 c3] 45;have m4 := (g4.block _ (gl m3)).trans m3;have t4 := (g4.block _ (gl t3)).trans t3;have b4 := b3.trans (g4.mono b3.size);have hs3 := (gl t3);clear m3 t3 b3 g4
 go_upto_region 2 with fail
 generalize w3.alloc (.cells #[.int .i64 2, I0, Bf, .string ⟨secret.toArray⟩, .slice a3 0 c3] 45) = w4 at x4 m4 t4 b4 ⊢;have q4 : w4.cell? ⟨b, 4, none⟩ = some (Bf) := (ad m4 4).trans G4.out
 go_upto_region 4 with fail
 clear q4;generalize w3.heap.size = x at x4 hs3 ⊢;refine aR (S := fun w' => w'.heap[b]? = some (.cells A 28 (0, 0)) ∧ w'.heap[x]? = some (.cells #[.int .i64 2, I0, Bf, .string ⟨secret.toArray⟩, .slice a3 0 c3] 45 (0, 0))) (by kernel_rfl) ?_;have T : w4.drew.heap[b]? = some (.cells A 28 (0, 0)) ∧ w4.drew.heap[x]? = some (.cells #[.int .i64 2, I0, Bf, .string ⟨secret.toArray⟩, .slice a3 0 c3] 45 (0, 0)) := ⟨m4, x4⟩;have D : Below w.heap.size w w4.drew := b4.drew;have R : w4.drew.heap[w.heap.size]? = some (.cells Ze 45 (0, 0)) := t4
 change wpAnyH _ _ _ _ _ _ _ _ w4.drew
 clear m4 x4 t4 b4;generalize w4.drew = w5 at T D R ⊢;refine tp 0 ⟨b, 3, none⟩ rfl T ?_;refine tn 1 (.int .i64 (v : Int)) rfl (fun w' hS => by have q := (ad hS.1 3).trans G3.out; go_simp) T ?_;refine tp 3 ⟨b, 2, none⟩ rfl T ?_;refine tn 4 (.string ⟨dn.toArray⟩) rfl (fun w' hS => by have q := (ad hS.1 2).trans G2.out; go_simp) T ?_;refine tn 6 (.agg #[.int .i64 2, I0, Bf, .string ⟨secret.toArray⟩, .slice a3 0 c3]) rfl (fun w' hS => by exact cU 45 (.tmp 2) rfl x 45 _ (0, 0) (by rfl) hS.2 _ Tryz.underlying45 rfl (by rfl)) T ?_;have kc := ln 2 v hv w5;refine ao 2 rfl (fun K hK => ?_); go_simp; go_wp2_with fail
 refine ag kc ?_;rintro e w6 ⟨rfl, hbn⟩;have T9 : w6.heap[b]? = some (.cells A 28 (0, 0)) ∧ w6.heap[x]? = some (.cells #[.int .i64 2, I0, Bf, .string ⟨secret.toArray⟩, .slice a3 0 c3] 45 (0, 0)) := ⟨(hbn.block _ (gl T.1)).trans T.1, (hbn.block _ (gl T.2)).trans T.2⟩;have R9 := (hbn.block _ (gl R)).trans R;have D9 := D.trans (hbn.mono D.size);clear kc hbn T R D;have T := T9;have R := R9;have D := D9;clear T9 R9 D9;refine hK _ _ T ?_; clear hK K
 have kc := bz dn w6;refine ao 5 rfl (fun K hK => ?_); go_simp; go_wp2_with fail
 refine ag kc ?_;rintro e w7 ⟨rfl, hbn⟩;have T9 : w7.heap[b]? = some (.cells A 28 (0, 0)) ∧ w7.heap[x]? = some (.cells #[.int .i64 2, I0, Bf, .string ⟨secret.toArray⟩, .slice a3 0 c3] 45 (0, 0)) := ⟨(hbn.block _ (gl T.1)).trans T.1, (hbn.block _ (gl T.2)).trans T.2⟩;have R9 := (hbn.block _ (gl R)).trans R;have D9 := D.trans (hbn.mono D.size);clear kc hbn T R D;have T := T9;have R := R9;have D := D9;clear T9 R9 D9;refine hK _ _ T ?_; clear hK K
 simp only [elA, El.cls, El.tag, El.cons, El.bytes];have g8 := alb w7 #[I0, .int .i64 2, Bf, .string ⟨[UInt8.ofNat v].toArray⟩, Sn, I0, .int .i64 4, Bf, .string ⟨dn.toArray⟩, Sn, .int .i64 2, I0, Bf, .string ⟨secret.toArray⟩, .slice a3 0 c3] 45;have y8 := alz w7 #[I0, .int .i64 2, Bf, .string ⟨[UInt8.ofNat v].toArray⟩, Sn, I0, .int .i64 4, Bf, .string ⟨dn.toArray⟩, Sn, .int .i64 2, I0, Bf, .string ⟨secret.toArray⟩, .slice a3 0 c3] 45;have T8 : (w7.alloc (.cells #[I0, .int .i64 2, Bf, .string ⟨[UInt8.ofNat v].toArray⟩, Sn, I0, .int .i64 4, Bf, .string ⟨dn.toArray⟩, Sn, .int .i64 2, I0, Bf, .string ⟨secret.toArray⟩, .slice a3 0 c3] 45)).heap[b]? = some (.cells A 28 (0, 0)) ∧ (w7.alloc (.cells #[I0, .int .i64 2, Bf, .string ⟨[UInt8.ofNat v].toArray⟩, Sn, I0, .int .i64 4, Bf, .string ⟨dn.toArray⟩, Sn, .int .i64 2, I0, Bf, .string ⟨secret.toArray⟩, .slice a3 0 c3] 45)).heap[x]? = some (.cells #[.int .i64 2, I0, Bf, .string ⟨secret.toArray⟩, .slice a3 0 c3] 45 (0, 0)) := ⟨(g8.block _ (gl T.1)).trans T.1, (g8.block _ (gl T.2)).trans T.2⟩;have R8 := (g8.block _ (gl R)).trans R;have D8 := D.trans (g8.mono D.size);clear T R D g8;refine ao 7 rfl (fun K hK => ?_); go_simp; refine hK _ _ T8 ?_; clear hK K
 generalize w7.alloc (.cells #[I0, .int .i64 2, Bf, .string ⟨[UInt8.ofNat v].toArray⟩, Sn, I0, .int .i64 4, Bf, .string ⟨dn.toArray⟩, Sn, .int .i64 2, I0, Bf, .string ⟨secret.toArray⟩, .slice a3 0 c3] 45) = w8 at y8 T8 R8 D8 ⊢;have hk8 : bf (fun _ => True) w8 (.slice (some ⟨w7.heap.size, 0, none⟩) 3 3) [.mk 0 2 false [UInt8.ofNat v] [], .mk 0 4 false dn [], .mk 2 0 false secret []] :=
  ic (P := fun _ => True) (l := [.mk 0 2 false [UInt8.ofNat v] [], .mk 0 4 false dn [], .mk 2 0 false secret []]) (us := [Sn, Sn, .slice a3 0 c3]) y8 rfl rfl (fun j e u hj hu => by
   have h3 : j = 0 ∨ j = 1 ∨ j = 2 := by have h9 := (List.getElem?_eq_some_iff.1 hj).1; simp at h9; omega
   rcases h3 with rfl | rfl | rfl
   all_goals (simp at hj hu; subst hj; subst hu; exact bf.no _ _ _ _)) trivial
 have kc := cH [.mk 0 2 false [UInt8.ofNat v] [], .mk 0 4 false dn [], .mk 2 0 false secret []] _ w8 hk8 (by simp [SmL, SmE]; exact ⟨hd, hs⟩) (by simp);refine ao 8 rfl (fun K hK => ?_); go_simp; go_wp2_with fail
 refine ag kc ?_;rintro e w9 ⟨⟨u9, rfl, hu9⟩, hb9⟩;have T9 : w9.heap[b]? = some (.cells A 28 (0, 0)) ∧ w9.heap[x]? = some (.cells #[.int .i64 2, I0, Bf, .string ⟨secret.toArray⟩, .slice a3 0 c3] 45 (0, 0)) := ⟨(hb9.block _ (gl T8.1)).trans T8.1, (hb9.block _ (gl T8.2)).trans T8.2⟩;have R9 := (hb9.block _ (gl R8)).trans R8;have D9 := D8.trans (hb9.mono D8.size);have hs8 := (gl R8);clear kc hb9 T8 R8 D8 y8 hk8;refine hK _ _ T9 ?_; clear hK K
 obtain ⟨E, hE⟩ : ∃ E, elA (.mk 0 16 true [] [.mk 0 2 false [UInt8.ofNat v] [], .mk 0 4 false dn [], .mk 2 0 false secret []]) u9 = E := ⟨_, rfl⟩;have hE1 : E.all (·.oneCell') = true := by
  obtain ⟨a, c, hsl⟩ := hu9.shape;subst hsl;rw [← hE]; simp [elA, Value.oneCell']
 have hE2 : E.size = 5 := by rw [← hE]; rfl
 rw [hE];have HE := hid hE;have HE1 := hid hE1;have HE2 := hid hE2;clear hE hE1 hE2;have hwb : b ≠ w.heap.size := by omega
 have hwx : x ≠ w.heap.size := by omega
 have TF : (w9.setRow w.heap.size E).heap[b]? = some (.cells A 28 (0, 0)) ∧ (w9.setRow w.heap.size E).heap[x]? = some (.cells #[.int .i64 2, I0, Bf, .string ⟨secret.toArray⟩, .slice a3 0 c3] 45 (0, 0)) := ⟨(setRow_other w9 w.heap.size b E hwb).trans T9.1, (setRow_other w9 w.heap.size x E hwx).trans T9.2⟩;have bF := bm D9 (g := w.heap.size) (ah _) E;have tF := setRow_heap w9 w.heap.size _ E _ _ R9;have hwl : w.heap.size < w8.heap.size := by omega
 have uF : bf (fun g => w.heap.size ≤ g) (w9.setRow w.heap.size E) u9 [.mk 0 2 false [UInt8.ofNat v] [], .mk 0 4 false dn [], .mk 2 0 false secret []] := hu9.kept fun g hg hl => ⟨setRow_other w9 w.heap.size g E (by omega), by omega⟩
 refine ao 9 rfl (fun K hK => ?_);refine db 45 (.tmp 1) (.tmp 23) rfl w.heap.size 45 _ E (by rfl) (by rfl) R9 (by rw [HE2.out]; rfl) (by rw [HE2.out]; rfl) HE1.out ?_;refine hK _ _ TF ?_; clear hK K
 refine aV (by kernel_rfl) ?_ _;simp only [Exit.then];refine ‹∀ (a : Act) (w : World), Code.wp _ _ _ a w → _› _ _ ?_;clear T9 R9 D9 TF hu9;generalize w9.setRow w.heap.size E = wF at bF tF uF ⊢;have UF := hid uF;clear uF;go_simp
 go_wp2_with fail
 refine aH (v := .agg E) ?_ rfl (by rw [HPR.out]; exact ⟨⟨u9, by rw [HE.out], UF.out⟩, bF⟩);have hr := aJ (P := Tryz.prog) wF w.heap.size 45 45 E (0, 0) _ tF (show Tryz.prog.underlying 45 = _ from Tryz.underlying45) (by rfl) (by rw [HE2.out]; rfl)
 simp [results, Tryz.f116]
 exact hr
structure OpM (x : OpX) (w0 : World) : Prop where
 cdn : w0.cell? ⟨x.M, 2, none⟩ = some (.string ⟨x.dn.toArray⟩)
 cvm : w0.cell? ⟨x.M, 13, none⟩ = some x.vm
 cva : w0.cell? ⟨x.M, 14, none⟩ = some x.va
 ctyp : w0.cell? ⟨x.M, 19, none⟩ = some (.string ⟨x.typ.toArray⟩)
 cval : w0.cell? ⟨x.M, 20, none⟩ = some (.string ⟨x.value.toArray⟩)
 mods : ∀ w', Below w0.heap.size w0 w' → Calls Tryz.prog 121 #[x.vm] w' fun e w'' => (∃ v, e = .returned v ∧ eM x.lm v w'') ∧ Below w'.heap.size w' w''
 attrs : ∀ w', Below w0.heap.size w0 w' → Calls Tryz.prog 122 #[x.va] w' fun e w'' => (∃ v, e = .returned v ∧ eM x.la v w'') ∧ Below w'.heap.size w' w''
 styp : x.typ.length ≤ 1000000000
 sval : x.value.length ≤ 1000000000
theorem py {P : Program} {o : Oper} {a : Act} {w w' : World} {K : Act → World → Prop} {Q : Exit → Act → World → Prop} (hr : (execOp a.eval o).run P w = .ok .skip w') (h : K (a.put o.dst undef) w') : Oper.wp P o a w K Q := by
 unfold Oper.wp;rw [hr];exact h
theorem nQ {P : Program} {ρ : Operand → Value} {o : Oper} {t : TypeId} {m k y : Operand} {mv kv v : Value} {w w' : World} (h : o.op = .insert t m k y) (hm : ρ m = mv) (hk : ρ k = kv) (hv : ρ y = v) (hr : (Instr.mapUpdate t mv kv v).run P w = .ok () w') : (execOp ρ o).run P w = .ok .skip w' := by
 obtain ⟨dst, op, ty, pos, after, guard⟩ := o;simp only at h;subst h;subst hm;subst hk;subst hv;go_simp
theorem mO {ρ : Operand → Value} {o : Oper} {w : World} (h : o.op = .makeMap 148 none) : (execOp ρ o).run Tryz.prog w = .ok (.value (.map (some w.heap.size))) (w.alloc (.map #[] 0)) := by
 obtain ⟨dst, op, ty, pos, after, guard⟩ := o;simp only at h;subst h;have hmm : ∀ (t : TypeId) (w : World), (Instr.makeMap t none).run Tryz.prog w = .ok (.map (some w.heap.size)) (w.alloc (.map #[] 0)) := fun _ _ => rfl
 go_simp
theorem f9 {e1 e2 : El} {a1 a2 : Option Addr} {n1 n2 c1 c2 : Nat} {w : World} (h1 : bf (fun _ => True) w (.slice a1 n1 c1) e1.kids) (h2 : bf (fun _ => True) w (.slice a2 n2 c2) e2.kids) :
  bf (fun _ => True) (w.alloc (.cells #[.int .i64 e1.cls, .int .i64 e1.tag, .bool e1.cons, .string ⟨e1.bytes.toArray⟩, .slice a1 n1 c1, .int .i64 e2.cls, .int .i64 e2.tag, .bool e2.cons, .string ⟨e2.bytes.toArray⟩, .slice a2 n2 c2] 45)) (.slice (some ⟨w.heap.size, 0, none⟩) 2 2) [e1, e2] := by
 have hb := alb w #[.int .i64 e1.cls, .int .i64 e1.tag, .bool e1.cons, .string ⟨e1.bytes.toArray⟩, .slice a1 n1 c1, .int .i64 e2.cls, .int .i64 e2.tag, .bool e2.cons, .string ⟨e2.bytes.toArray⟩, .slice a2 n2 c2] 45;refine ic (l := [e1, e2]) (us := [.slice a1 n1 c1, .slice a2 n2 c2]) (bi _ _ _ rfl) (by simp [cx]) rfl (fun j e u hj hu => ?_) trivial;have h3 : j = 0 ∨ j = 1 := by have h9 := (List.getElem?_eq_some_iff.1 hj).1; simp at h9; omega
 rcases h3 with rfl | rfl
 ·simp at hj hu; subst hj; subst hu; exact h1.below hb
 ·simp at hj hu; subst hj; subst hu; exact h2.below hb
theorem ga (s : List UInt8) (w : World) : bf (fun _ => True) w (Sn) (El.kids (.mk 0 4 false s [])) := bf.nil _ _
section
variable {x : OpX} {E : Value} {w0 : World} {ops : Array Oper} {o : Oper} {listed : Array Bool} {a : Act} {w : World} {Q : Exit → Act → World → Prop} {K : Act → World → Prop}
theorem OpC.hi' {i : Nat} (c : OpC x E w0 ops i o listed a w) : listed.getD i false = false := by
 have h := c.hi;rcases Nat.lt_or_ge i listed.size with h' | h'
 ·simp [h'] at h ⊢; exact h
 ·simp [Array.getElem?_eq_none h'] at h
theorem ee {i : Nat} {k : Int} {y : Operand} {val : Value} (c : OpC x E w0 ops i o listed a w) (hop : o.op = .insert 148 (.tmp 7) (.const (.int .i64 k)) y) (hd : o.dst = none) (hL : (i, k) ∈ opL) (hW : (i, 0) ∈ opW) (hy : a.eval y = val) (hval : opV x i val w) (hT : ∀ v w, opG x i v w)
  (hK : HKt x E w0 o listed a w K i) : Oper.wp Tryz.prog o a w K Q := by
 obtain ⟨h1, h2, h3, h4, h5, h7, h6⟩ := c.hB;have hc0 := c.came hW;obtain ⟨r, hr7, hrw, hm⟩ := h6 hc0;have hinj : ∀ p ∈ opL, p.2 = k → p.1 = i := by
  have : ∀ p ∈ opL, ∀ q ∈ opL, p.2 = q.2 → p.1 = q.1 := by decide
  exact fun p hp e => this p hp (i, k) hL e
 have hdist : ∀ p ∈ opL, p.1 = i → p.2 = k := by
  have : ∀ p ∈ opL, ∀ q ∈ opL, p.1 = q.1 → p.2 = q.2 := by decide
  exact fun p hp e => this p hp (i, k) hL e
 obtain ⟨w', hrun, hm', hsz, hoth, e1, e2, e3, hH⟩ := kJ (P := Tryz.prog) 148 3 127 i k val (by kernel_rfl) (by kernel_rfl) hm hL hinj hdist c.hi' (fun i v w w' q => jn x i v w w' q) hval;refine py (nQ hop (bu hr7) rfl hy hrun) (hK undef w' (hT _ _) ⟨hH, fun r' hr' => ?_⟩ ?_)
 ·by_cases hrr : r' = r
  ·exfalso
   subst hrr;obtain ⟨es, cl, hb, _, q3⟩ := hr';obtain ⟨es', cl', hb', q2', _⟩ := hm;rw [hb] at hb';cases hb';obtain ⟨z, hz, hzk⟩ := q3 (i, k) hL rfl;obtain ⟨p, hp, hpl, hpk, _⟩ := q2' z hz;rw [hzk] at hpk
   injection hpk with _ hpk
   have := hinj p hp hpk.symm;simp only at hpl;rw [this, c.hi'] at hpl;cases hpl
  ·exact hr'.keep (hoth r' hrr) (fun j v q => jn x j v _ _ hH q) (fun _ _ => rfl)
 ·rw [hd]
  have hil : i < listed.size := by
   rw [c.hsz];exact (gl c.ho)
  have hl : ∀ j, (listed.setIfInBounds i true).getD j false = if j = i then true else listed.getD j false := by
   intro j
   by_cases hj : j = i
   ·subst hj; simp [hil]
   ·simp [hj, Ne.symm hj]
  refine ⟨h1, h2, h3, h4, ⟨e1.trans h5.os, e2.trans h5.tape, e3.trans h5.output, by have := h5.size; omega, fun j hj => (hoth j (by omega)).trans (h5.block j hj)⟩, fun p hp _ => ?_, fun _ => ⟨r, hr7, hrw, hm'.keep rfl (fun _ _ q => q) (fun p _ => hl p.1)⟩⟩;rw [hl]
  split
  ·rfl
  ·exact hc0
theorem vu (_m : OpM x w0) (c : OpC x E w0 ops 0 o listed a w) (hK : HKt x E w0 o listed a w K 0) : Oper.wp Tryz.prog o a w K Q := by
 obtain ⟨q1, q2⟩ := aP (aD (bx c.htab c.ho));obtain ⟨h1, h2, h3, h4, h5, h7, h6⟩ := c.hB;have hb : Below w.heap.size w (w.alloc (.map #[] 0)) := (aq _ _).alloc (ah _) _;refine jS (mO q1.symm) (hK _ _ trivial (jo x hb) ?_);rw [← q2];have hil : 0 < listed.size := by
  rw [c.hsz];exact (gl c.ho)
 have hno : ∀ p ∈ opL, listed.getD p.1 false = false := by
  intro p hp;cases hq : listed.getD p.1 false with
  | false => rfl
  | true => have := h7 p hp hq; rw [c.hi'] at this; cases this
 have hp0 : ∀ p ∈ opL, p.1 ≠ 0 := by decide
 have hne : ∀ p ∈ opL, (listed.setIfInBounds 0 true).getD p.1 false = false := by
  intro p hp;have q := hno p hp
  simp [Ne.symm (hp0 p hp)] at q ⊢
  exact q
 have hs7 : 7 < a.tmps.size := by rw [c.hn]; decide
 refine ⟨?_, ?_, ?_, h4, h5.trans (hb.mono h5.size), fun p hp q => ?_, fun _ => ⟨w.heap.size, ?_, h5.size, #[], 0, bi _ _ _ rfl, ?_, fun p hp q => ?_⟩⟩
 ·show (a.tmps.setIfInBounds 7 _)[1]? = _
  simp [h1]
 ·show (a.tmps.setIfInBounds 7 _)[2]? = _
  simp [h2]
 ·show (a.tmps.setIfInBounds 7 _)[3]? = _
  simp [h3]
 ·rw [hne p hp] at q; cases q
 ·show (a.tmps.setIfInBounds 7 _)[7]? = _
  simp [hs7]
 ·intro z hz; simp at hz
 ·have := hne p hp
  simp only at q;rw [this] at q; cases q
theorem vv (_m : OpM x w0) (c : OpC x E w0 ops 1 o listed a w) (hK : HKt x E w0 o listed a w K 1) : Oper.wp Tryz.prog o a w K Q := by
 obtain ⟨q1, q2⟩ := aP (aD (bx c.htab c.ho));exact c.value q2.symm (by decide) (by decide) (eD q1.symm (bu c.hB.1)) (aq _ _) rfl hK
theorem vw (_m : OpM x w0) (c : OpC x E w0 ops 2 o listed a w) (hK : HKt x E w0 o listed a w K 2) : Oper.wp Tryz.prog o a w K Q := by
 obtain ⟨q1, q2⟩ := aP (aD (bx c.htab c.ho));obtain ⟨v1, p1, g1⟩ := c.dep (j := 1) (d := 8) (by decide) rfl;exact ee c q1.symm q2.symm (by decide) (by decide) (bu p1) g1 (fun _ _ => trivial) hK
theorem vx (_m : OpM x w0) (c : OpC x E w0 ops 3 o listed a w) (hK : HKt x E w0 o listed a w K 3) : Oper.wp Tryz.prog o a w K Q := by
 obtain ⟨q1, q2⟩ := aP (aD (bx c.htab c.ho));exact ee c q1.symm q2.symm (by decide) (by decide) rfl rfl (fun _ _ => trivial) hK
theorem vy (_m : OpM x w0) (c : OpC x E w0 ops 4 o listed a w) (hK : HKt x E w0 o listed a w K 4) : Oper.wp Tryz.prog o a w K Q := by
 obtain ⟨q1, q2⟩ := aP (aD (bx c.htab c.ho));exact c.value q2.symm (by decide) (by decide) (eD q1.symm (bu c.hB.1)) (aq _ _) rfl hK
theorem vA (_m : OpM x w0) (c : OpC x E w0 ops 5 o listed a w) (hK : HKt x E w0 o listed a w K 5) : Oper.wp Tryz.prog o a w K Q := by
 obtain ⟨q1, q2⟩ := aP (aD (bx c.htab c.ho));obtain ⟨v1, p1, g1⟩ := c.dep (j := 4) (d := 9) (by decide) rfl;exact ee c q1.symm q2.symm (by decide) (by decide) (bu p1) g1 (fun _ _ => trivial) hK
theorem vB (_m : OpM x w0) (c : OpC x E w0 ops 6 o listed a w) (hK : HKt x E w0 o listed a w K 6) : Oper.wp Tryz.prog o a w K Q := by
 obtain ⟨q1, q2⟩ := aP (aD (bx c.htab c.ho));exact c.value q2.symm (by decide) (by decide) (gj q1.symm (bu c.hB.2.2.1)) (aq _ _) rfl hK
theorem vC (_m : OpM x w0) (c : OpC x E w0 ops 7 o listed a w) (hK : HKt x E w0 o listed a w K 7) : Oper.wp Tryz.prog o a w K Q := by
 obtain ⟨q1, q2⟩ := aP (aD (bx c.htab c.ho));exact c.value q2.symm (by decide) (by decide) (eq (by decide) q1.symm (bu c.hB.1)) (aq _ _) rfl hK
theorem vD (m : OpM x w0) (c : OpC x E w0 ops 8 o listed a w) (hK : HKt x E w0 o listed a w K 8) : Oper.wp Tryz.prog o a w K Q := by
 obtain ⟨q1, q2⟩ := aP (aD (bx c.htab c.ho));obtain ⟨v1, p1, g1⟩ := c.dep (j := 7) (d := 11) (by decide) rfl;have g1 : v1 = .pointer (some ⟨x.M, 2, none⟩) := g1;subst g1;have hc := (c.hB.2.2.2.2.1.cell (bj m.cdn)).trans m.cdn;exact c.value q2.symm (by decide) (by decide) (eF (by decide) q1.symm (bu p1) hc) (aq _ _) rfl hK
theorem vE (_m : OpM x w0) (c : OpC x E w0 ops 9 o listed a w) (hK : HKt x E w0 o listed a w K 9) : Oper.wp Tryz.prog o a w K Q := by
 obtain ⟨q1, q2⟩ := aP (aD (bx c.htab c.ho));obtain ⟨v1, p1, g1⟩ := c.dep (j := 8) (d := 12) (by decide) rfl;have g1 : v1 = .string ⟨x.dn.toArray⟩ := g1;subst g1;exact c.enter q2.symm (by decide) (by decide) (dg q1.symm rfl (bu p1) (fun args => cI _ (by decide) args w)) ((bz x.dn w).mono fun e w' h => ⟨⟨_, h.1, rfl⟩, h.2⟩) hK
theorem tR (_m : OpM x w0) (c : OpC x E w0 ops 10 o listed a w) (hK : HKt x E w0 o listed a w K 10) : Oper.wp Tryz.prog o a w K Q := by
 obtain ⟨q1, q2⟩ := aP (aD (bx c.htab c.ho));exact c.value q2.symm (by decide) (by decide) (eq (by decide) q1.symm (bu c.hB.1)) (aq _ _) rfl hK
theorem tS (m : OpM x w0) (c : OpC x E w0 ops 11 o listed a w) (hK : HKt x E w0 o listed a w K 11) : Oper.wp Tryz.prog o a w K Q := by
 obtain ⟨q1, q2⟩ := aP (aD (bx c.htab c.ho));obtain ⟨v1, p1, g1⟩ := c.dep (j := 10) (d := 14) (by decide) rfl;have g1 : v1 = .pointer (some ⟨x.M, 13, none⟩) := g1;subst g1;have hc := (c.hB.2.2.2.2.1.cell (bj m.cvm)).trans m.cvm;exact c.value q2.symm (by decide) (by decide) (eF (by decide) q1.symm (bu p1) hc) (aq _ _) rfl hK
theorem tT (m : OpM x w0) (c : OpC x E w0 ops 12 o listed a w) (hK : HKt x E w0 o listed a w K 12) : Oper.wp Tryz.prog o a w K Q := by
 obtain ⟨q1, q2⟩ := aP (aD (bx c.htab c.ho));obtain ⟨v1, p1, g1⟩ := c.dep (j := 11) (d := 15) (by decide) rfl;have g1 : v1 = x.vm := g1;subst g1;exact c.enter q2.symm (by decide) (by decide) (dg q1.symm rfl (bu p1) (fun args => cI _ (by decide) args w)) (m.mods w c.hB.2.2.2.2.1) hK
theorem tU (_m : OpM x w0) (c : OpC x E w0 ops 13 o listed a w) (hK : HKt x E w0 o listed a w K 13) : Oper.wp Tryz.prog o a w K Q := by
 obtain ⟨q1, q2⟩ := aP (aD (bx c.htab c.ho));obtain ⟨v1, p1, g1⟩ := c.dep (j := 9) (d := 13) (by decide) rfl;obtain ⟨v2, p2, g2⟩ := c.dep (j := 12) (d := 16) (by decide) rfl;have g1 : v1 = .agg (elA (.mk 0 4 false x.dn []) (Sn)) := g1;subst g1;obtain ⟨u2, e2, k2⟩ : eM x.lm v2 w := g2;obtain ⟨b2, l2, s2⟩ := k2.shape;subst s2;subst e2;exact c.value q2.symm (by decide) (by decide) (fZ q1.symm (bu p1) (bu p2)) ((aq _ _).alloc (ah _) _) (f9 (ga _ w) k2) hK
theorem tV (_m : OpM x w0) (c : OpC x E w0 ops 14 o listed a w) (hK : HKt x E w0 o listed a w K 14) : Oper.wp Tryz.prog o a w K Q := by
 obtain ⟨q1, q2⟩ := aP (aD (bx c.htab c.ho));obtain ⟨v1, p1, g1⟩ := c.dep (j := 6) (d := 10) (by decide) rfl;have g1 : v1 = .func (.func 114) #[] #[] := g1;subst g1;obtain ⟨v2, p2, g2⟩ := c.dep (j := 13) (d := 17) (by decide) rfl;have g2 : bf (fun _ => True) w v2 [(.mk 0 4 false x.dn []), .mk 0 16 true [] x.lm] := g2;have hs : ∃ a n c, v2 = .slice a n c := by
  obtain ⟨b, n, s⟩ := g2.shape;exact ⟨_, _, _, s⟩
 refine c.enter q2.symm (by decide) (by decide) (dg q1.symm (bu p1) (bu p2) (fun args => cI _ (by decide) args w)) ((gK v2 w hs).mono ?_) hK;rintro e w' ⟨⟨b, rfl, hc⟩, hb⟩;exact ⟨⟨_, rfl, b, v2, rfl, hc, g2.below hb⟩, hb⟩
theorem tW (_m : OpM x w0) (c : OpC x E w0 ops 15 o listed a w) (hK : HKt x E w0 o listed a w K 15) : Oper.wp Tryz.prog o a w K Q := by
 obtain ⟨q1, q2⟩ := aP (aD (bx c.htab c.ho));obtain ⟨v1, p1, g1⟩ := c.dep (j := 14) (d := 18) (by decide) rfl;exact ee c q1.symm q2.symm (by decide) (by decide) (bu p1) g1 (fun _ _ => trivial) hK
theorem tX (_m : OpM x w0) (c : OpC x E w0 ops 16 o listed a w) (hK : HKt x E w0 o listed a w K 16) : Oper.wp Tryz.prog o a w K Q := by
 obtain ⟨q1, q2⟩ := aP (aD (bx c.htab c.ho));exact c.value q2.symm (by decide) (by decide) (gj q1.symm (bu c.hB.2.2.1)) (aq _ _) rfl hK
theorem tY (_m : OpM x w0) (c : OpC x E w0 ops 17 o listed a w) (hK : HKt x E w0 o listed a w K 17) : Oper.wp Tryz.prog o a w K Q := by
 obtain ⟨q1, q2⟩ := aP (aD (bx c.htab c.ho));exact c.value q2.symm (by decide) (by decide) (eq (by decide) q1.symm (bu c.hB.1)) (aq _ _) rfl hK
theorem tZ (m : OpM x w0) (c : OpC x E w0 ops 18 o listed a w) (hK : HKt x E w0 o listed a w K 18) : Oper.wp Tryz.prog o a w K Q := by
 obtain ⟨q1, q2⟩ := aP (aD (bx c.htab c.ho));obtain ⟨v1, p1, g1⟩ := c.dep (j := 17) (d := 20) (by decide) rfl;have g1 : v1 = .pointer (some ⟨x.M, 2, none⟩) := g1;subst g1;have hc := (c.hB.2.2.2.2.1.cell (bj m.cdn)).trans m.cdn;exact c.value q2.symm (by decide) (by decide) (eF (by decide) q1.symm (bu p1) hc) (aq _ _) rfl hK
theorem ua (_m : OpM x w0) (c : OpC x E w0 ops 19 o listed a w) (hK : HKt x E w0 o listed a w K 19) : Oper.wp Tryz.prog o a w K Q := by
 obtain ⟨q1, q2⟩ := aP (aD (bx c.htab c.ho));obtain ⟨v1, p1, g1⟩ := c.dep (j := 18) (d := 21) (by decide) rfl;have g1 : v1 = .string ⟨x.dn.toArray⟩ := g1;subst g1;exact c.enter q2.symm (by decide) (by decide) (dg q1.symm rfl (bu p1) (fun args => cI _ (by decide) args w)) ((bz x.dn w).mono fun e w' h => ⟨⟨_, h.1, rfl⟩, h.2⟩) hK
theorem uc (_m : OpM x w0) (c : OpC x E w0 ops 20 o listed a w) (hK : HKt x E w0 o listed a w K 20) : Oper.wp Tryz.prog o a w K Q := by
 obtain ⟨q1, q2⟩ := aP (aD (bx c.htab c.ho));exact c.value q2.symm (by decide) (by decide) (eq (by decide) q1.symm (bu c.hB.1)) (aq _ _) rfl hK
theorem ud (m : OpM x w0) (c : OpC x E w0 ops 21 o listed a w) (hK : HKt x E w0 o listed a w K 21) : Oper.wp Tryz.prog o a w K Q := by
 obtain ⟨q1, q2⟩ := aP (aD (bx c.htab c.ho));obtain ⟨v1, p1, g1⟩ := c.dep (j := 20) (d := 23) (by decide) rfl;have g1 : v1 = .pointer (some ⟨x.M, 14, none⟩) := g1;subst g1;have hc := (c.hB.2.2.2.2.1.cell (bj m.cva)).trans m.cva;exact c.value q2.symm (by decide) (by decide) (eF (by decide) q1.symm (bu p1) hc) (aq _ _) rfl hK
theorem ue (m : OpM x w0) (c : OpC x E w0 ops 22 o listed a w) (hK : HKt x E w0 o listed a w K 22) : Oper.wp Tryz.prog o a w K Q := by
 obtain ⟨q1, q2⟩ := aP (aD (bx c.htab c.ho));obtain ⟨v1, p1, g1⟩ := c.dep (j := 21) (d := 24) (by decide) rfl;have g1 : v1 = x.va := g1;subst g1;exact c.enter q2.symm (by decide) (by decide) (dg q1.symm rfl (bu p1) (fun args => cI _ (by decide) args w)) (m.attrs w c.hB.2.2.2.2.1) hK
theorem ug (_m : OpM x w0) (c : OpC x E w0 ops 23 o listed a w) (hK : HKt x E w0 o listed a w K 23) : Oper.wp Tryz.prog o a w K Q := by
 obtain ⟨q1, q2⟩ := aP (aD (bx c.htab c.ho));obtain ⟨v1, p1, g1⟩ := c.dep (j := 19) (d := 22) (by decide) rfl;obtain ⟨v2, p2, g2⟩ := c.dep (j := 22) (d := 25) (by decide) rfl;have g1 : v1 = .agg (elA (.mk 0 4 false x.dn []) (Sn)) := g1;subst g1;obtain ⟨u2, e2, k2⟩ : eM x.la v2 w := g2;obtain ⟨b2, l2, s2⟩ := k2.shape;subst s2;subst e2;exact c.value q2.symm (by decide) (by decide) (fZ q1.symm (bu p1) (bu p2)) ((aq _ _).alloc (ah _) _) (f9 (ga _ w) k2) hK
theorem uh (_m : OpM x w0) (c : OpC x E w0 ops 24 o listed a w) (hK : HKt x E w0 o listed a w K 24) : Oper.wp Tryz.prog o a w K Q := by
 obtain ⟨q1, q2⟩ := aP (aD (bx c.htab c.ho));obtain ⟨v1, p1, g1⟩ := c.dep (j := 16) (d := 19) (by decide) rfl;have g1 : v1 = .func (.func 114) #[] #[] := g1;subst g1;obtain ⟨v2, p2, g2⟩ := c.dep (j := 23) (d := 26) (by decide) rfl;have g2 : bf (fun _ => True) w v2 [(.mk 0 4 false x.dn []), .mk 0 16 true [] x.la] := g2;have hs : ∃ a n c, v2 = .slice a n c := by
  obtain ⟨b, n, s⟩ := g2.shape;exact ⟨_, _, _, s⟩
 refine c.enter q2.symm (by decide) (by decide) (dg q1.symm (bu p1) (bu p2) (fun args => cI _ (by decide) args w)) ((gK v2 w hs).mono ?_) hK;rintro e w' ⟨⟨b, rfl, hc⟩, hb⟩;exact ⟨⟨_, rfl, b, v2, rfl, hc, g2.below hb⟩, hb⟩
theorem ui (_m : OpM x w0) (c : OpC x E w0 ops 25 o listed a w) (hK : HKt x E w0 o listed a w K 25) : Oper.wp Tryz.prog o a w K Q := by
 obtain ⟨q1, q2⟩ := aP (aD (bx c.htab c.ho));obtain ⟨v1, p1, g1⟩ := c.dep (j := 24) (d := 27) (by decide) rfl;exact ee c q1.symm q2.symm (by decide) (by decide) (bu p1) g1 (fun _ _ => trivial) hK
theorem uj (_m : OpM x w0) (c : OpC x E w0 ops 26 o listed a w) (hK : HKt x E w0 o listed a w K 26) : Oper.wp Tryz.prog o a w K Q := by
 obtain ⟨q1, q2⟩ := aP (aD (bx c.htab c.ho));exact c.value q2.symm (by decide) (by decide) (gj q1.symm (bu c.hB.2.2.1)) (aq _ _) rfl hK
theorem uk (_m : OpM x w0) (c : OpC x E w0 ops 27 o listed a w) (hK : HKt x E w0 o listed a w K 27) : Oper.wp Tryz.prog o a w K Q := by
 obtain ⟨q1, q2⟩ := aP (aD (bx c.htab c.ho));exact c.value q2.symm (by decide) (by decide) (eq (by decide) q1.symm (bu c.hB.1)) (aq _ _) rfl hK
theorem ul (m : OpM x w0) (c : OpC x E w0 ops 28 o listed a w) (hK : HKt x E w0 o listed a w K 28) : Oper.wp Tryz.prog o a w K Q := by
 obtain ⟨q1, q2⟩ := aP (aD (bx c.htab c.ho));obtain ⟨v1, p1, g1⟩ := c.dep (j := 27) (d := 29) (by decide) rfl;have g1 : v1 = .pointer (some ⟨x.M, 2, none⟩) := g1;subst g1;have hc := (c.hB.2.2.2.2.1.cell (bj m.cdn)).trans m.cdn;exact c.value q2.symm (by decide) (by decide) (eF (by decide) q1.symm (bu p1) hc) (aq _ _) rfl hK
theorem um (_m : OpM x w0) (c : OpC x E w0 ops 29 o listed a w) (hK : HKt x E w0 o listed a w K 29) : Oper.wp Tryz.prog o a w K Q := by
 obtain ⟨q1, q2⟩ := aP (aD (bx c.htab c.ho));obtain ⟨v1, p1, g1⟩ := c.dep (j := 28) (d := 30) (by decide) rfl;have g1 : v1 = .string ⟨x.dn.toArray⟩ := g1;subst g1;exact c.enter q2.symm (by decide) (by decide) (dg q1.symm rfl (bu p1) (fun args => cI _ (by decide) args w)) ((bz x.dn w).mono fun e w' h => ⟨⟨_, h.1, rfl⟩, h.2⟩) hK
theorem un (_m : OpM x w0) (c : OpC x E w0 ops 30 o listed a w) (hK : HKt x E w0 o listed a w K 30) : Oper.wp Tryz.prog o a w K Q := by
 obtain ⟨q1, q2⟩ := aP (aD (bx c.htab c.ho));exact c.value q2.symm (by decide) (by decide) (eq (by decide) q1.symm (bu c.hB.1)) (aq _ _) rfl hK
theorem uq (m : OpM x w0) (c : OpC x E w0 ops 31 o listed a w) (hK : HKt x E w0 o listed a w K 31) : Oper.wp Tryz.prog o a w K Q := by
 obtain ⟨q1, q2⟩ := aP (aD (bx c.htab c.ho));obtain ⟨v1, p1, g1⟩ := c.dep (j := 30) (d := 32) (by decide) rfl;have g1 : v1 = .pointer (some ⟨x.M, 14, none⟩) := g1;subst g1;have hc := (c.hB.2.2.2.2.1.cell (bj m.cva)).trans m.cva;exact c.value q2.symm (by decide) (by decide) (eF (by decide) q1.symm (bu p1) hc) (aq _ _) rfl hK
theorem ur (m : OpM x w0) (c : OpC x E w0 ops 32 o listed a w) (hK : HKt x E w0 o listed a w K 32) : Oper.wp Tryz.prog o a w K Q := by
 obtain ⟨q1, q2⟩ := aP (aD (bx c.htab c.ho));obtain ⟨v1, p1, g1⟩ := c.dep (j := 31) (d := 33) (by decide) rfl;have g1 : v1 = x.va := g1;subst g1;exact c.enter q2.symm (by decide) (by decide) (dg q1.symm rfl (bu p1) (fun args => cI _ (by decide) args w)) (m.attrs w c.hB.2.2.2.2.1) hK
theorem ut (_m : OpM x w0) (c : OpC x E w0 ops 33 o listed a w) (hK : HKt x E w0 o listed a w K 33) : Oper.wp Tryz.prog o a w K Q := by
 obtain ⟨q1, q2⟩ := aP (aD (bx c.htab c.ho));obtain ⟨v1, p1, g1⟩ := c.dep (j := 29) (d := 31) (by decide) rfl;obtain ⟨v2, p2, g2⟩ := c.dep (j := 32) (d := 34) (by decide) rfl;have g1 : v1 = .agg (elA (.mk 0 4 false x.dn []) (Sn)) := g1;subst g1;obtain ⟨u2, e2, k2⟩ : eM x.la v2 w := g2;obtain ⟨b2, l2, s2⟩ := k2.shape;subst s2;subst e2;exact c.value q2.symm (by decide) (by decide) (fZ q1.symm (bu p1) (bu p2)) ((aq _ _).alloc (ah _) _) (f9 (ga _ w) k2) hK
theorem uv (_m : OpM x w0) (c : OpC x E w0 ops 34 o listed a w) (hK : HKt x E w0 o listed a w K 34) : Oper.wp Tryz.prog o a w K Q := by
 obtain ⟨q1, q2⟩ := aP (aD (bx c.htab c.ho));obtain ⟨v1, p1, g1⟩ := c.dep (j := 26) (d := 28) (by decide) rfl;have g1 : v1 = .func (.func 114) #[] #[] := g1;subst g1;obtain ⟨v2, p2, g2⟩ := c.dep (j := 33) (d := 35) (by decide) rfl;have g2 : bf (fun _ => True) w v2 [(.mk 0 4 false x.dn []), .mk 0 16 true [] x.la] := g2;have hs : ∃ a n c, v2 = .slice a n c := by
  obtain ⟨b, n, s⟩ := g2.shape;exact ⟨_, _, _, s⟩
 refine c.enter q2.symm (by decide) (by decide) (dg q1.symm (bu p1) (bu p2) (fun args => cI _ (by decide) args w)) ((gK v2 w hs).mono ?_) hK;rintro e w' ⟨⟨b, rfl, hc⟩, hb⟩;exact ⟨⟨_, rfl, b, v2, rfl, hc, g2.below hb⟩, hb⟩
theorem uw (_m : OpM x w0) (c : OpC x E w0 ops 35 o listed a w) (hK : HKt x E w0 o listed a w K 35) : Oper.wp Tryz.prog o a w K Q := by
 obtain ⟨q1, q2⟩ := aP (aD (bx c.htab c.ho));obtain ⟨v1, p1, g1⟩ := c.dep (j := 34) (d := 36) (by decide) rfl;exact ee c q1.symm q2.symm (by decide) (by decide) (bu p1) g1 (fun _ _ => trivial) hK
theorem ux (_m : OpM x w0) (c : OpC x E w0 ops 36 o listed a w) (hK : HKt x E w0 o listed a w K 36) : Oper.wp Tryz.prog o a w K Q := by
 obtain ⟨q1, q2⟩ := aP (aD (bx c.htab c.ho));exact c.value q2.symm (by decide) (by decide) (eD q1.symm (bu c.hB.1)) (aq _ _) rfl hK
theorem uy (_m : OpM x w0) (c : OpC x E w0 ops 37 o listed a w) (hK : HKt x E w0 o listed a w K 37) : Oper.wp Tryz.prog o a w K Q := by
 obtain ⟨q1, q2⟩ := aP (aD (bx c.htab c.ho));obtain ⟨v1, p1, g1⟩ := c.dep (j := 36) (d := 37) (by decide) rfl;exact ee c q1.symm q2.symm (by decide) (by decide) (bu p1) g1 (fun _ _ => trivial) hK
theorem uz (_m : OpM x w0) (c : OpC x E w0 ops 38 o listed a w) (hK : HKt x E w0 o listed a w K 38) : Oper.wp Tryz.prog o a w K Q := by
 obtain ⟨q1, q2⟩ := aP (aD (bx c.htab c.ho));exact c.value q2.symm (by decide) (by decide) (eD q1.symm (bu c.hB.1)) (aq _ _) rfl hK
theorem uA (_m : OpM x w0) (c : OpC x E w0 ops 39 o listed a w) (hK : HKt x E w0 o listed a w K 39) : Oper.wp Tryz.prog o a w K Q := by
 obtain ⟨q1, q2⟩ := aP (aD (bx c.htab c.ho));obtain ⟨v1, p1, g1⟩ := c.dep (j := 38) (d := 38) (by decide) rfl;exact ee c q1.symm q2.symm (by decide) (by decide) (bu p1) g1 (fun _ _ => trivial) hK
theorem uB (_m : OpM x w0) (c : OpC x E w0 ops 40 o listed a w) (hK : HKt x E w0 o listed a w K 40) : Oper.wp Tryz.prog o a w K Q := by
 obtain ⟨q1, q2⟩ := aP (aD (bx c.htab c.ho));exact c.value q2.symm (by decide) (by decide) (gj q1.symm (bu c.hB.2.2.1)) (aq _ _) rfl hK
theorem uC (_m : OpM x w0) (c : OpC x E w0 ops 41 o listed a w) (hK : HKt x E w0 o listed a w K 41) : Oper.wp Tryz.prog o a w K Q := by
 obtain ⟨q1, q2⟩ := aP (aD (bx c.htab c.ho));exact c.value q2.symm (by decide) (by decide) (eq (by decide) q1.symm (bu c.hB.1)) (aq _ _) rfl hK
theorem uD (m : OpM x w0) (c : OpC x E w0 ops 42 o listed a w) (hK : HKt x E w0 o listed a w K 42) : Oper.wp Tryz.prog o a w K Q := by
 obtain ⟨q1, q2⟩ := aP (aD (bx c.htab c.ho));obtain ⟨v1, p1, g1⟩ := c.dep (j := 41) (d := 40) (by decide) rfl;have g1 : v1 = .pointer (some ⟨x.M, 2, none⟩) := g1;subst g1;have hc := (c.hB.2.2.2.2.1.cell (bj m.cdn)).trans m.cdn;exact c.value q2.symm (by decide) (by decide) (eF (by decide) q1.symm (bu p1) hc) (aq _ _) rfl hK
theorem uE (_m : OpM x w0) (c : OpC x E w0 ops 43 o listed a w) (hK : HKt x E w0 o listed a w K 43) : Oper.wp Tryz.prog o a w K Q := by
 obtain ⟨q1, q2⟩ := aP (aD (bx c.htab c.ho));obtain ⟨v1, p1, g1⟩ := c.dep (j := 42) (d := 41) (by decide) rfl;have g1 : v1 = .string ⟨x.dn.toArray⟩ := g1;subst g1;exact c.enter q2.symm (by decide) (by decide) (dg q1.symm rfl (bu p1) (fun args => cI _ (by decide) args w)) ((bz x.dn w).mono fun e w' h => ⟨⟨_, h.1, rfl⟩, h.2⟩) hK
theorem uG (_m : OpM x w0) (c : OpC x E w0 ops 44 o listed a w) (hK : HKt x E w0 o listed a w K 44) : Oper.wp Tryz.prog o a w K Q := by
 obtain ⟨q1, q2⟩ := aP (aD (bx c.htab c.ho));exact c.value q2.symm (by decide) (by decide) (eq (by decide) q1.symm (bu c.hB.1)) (aq _ _) rfl hK
theorem uH (m : OpM x w0) (c : OpC x E w0 ops 45 o listed a w) (hK : HKt x E w0 o listed a w K 45) : Oper.wp Tryz.prog o a w K Q := by
 obtain ⟨q1, q2⟩ := aP (aD (bx c.htab c.ho));obtain ⟨v1, p1, g1⟩ := c.dep (j := 44) (d := 43) (by decide) rfl;have g1 : v1 = .pointer (some ⟨x.M, 19, none⟩) := g1;subst g1;have hc := (c.hB.2.2.2.2.1.cell (bj m.ctyp)).trans m.ctyp;exact c.value q2.symm (by decide) (by decide) (eF (by decide) q1.symm (bu p1) hc) (aq _ _) rfl hK
theorem uI (_m : OpM x w0) (c : OpC x E w0 ops 46 o listed a w) (hK : HKt x E w0 o listed a w K 46) : Oper.wp Tryz.prog o a w K Q := by
 obtain ⟨q1, q2⟩ := aP (aD (bx c.htab c.ho));obtain ⟨v1, p1, g1⟩ := c.dep (j := 45) (d := 44) (by decide) rfl;have g1 : v1 = .string ⟨x.typ.toArray⟩ := g1;subst g1;exact c.enter q2.symm (by decide) (by decide) (dg q1.symm rfl (bu p1) (fun args => cI _ (by decide) args w)) ((bz x.typ w).mono fun e w' h => ⟨⟨_, h.1, rfl⟩, h.2⟩) hK
theorem uJ (_m : OpM x w0) (c : OpC x E w0 ops 47 o listed a w) (hK : HKt x E w0 o listed a w K 47) : Oper.wp Tryz.prog o a w K Q := by
 obtain ⟨q1, q2⟩ := aP (aD (bx c.htab c.ho));exact c.value q2.symm (by decide) (by decide) (eq (by decide) q1.symm (bu c.hB.1)) (aq _ _) rfl hK
theorem uK (m : OpM x w0) (c : OpC x E w0 ops 48 o listed a w) (hK : HKt x E w0 o listed a w K 48) : Oper.wp Tryz.prog o a w K Q := by
 obtain ⟨q1, q2⟩ := aP (aD (bx c.htab c.ho));obtain ⟨v1, p1, g1⟩ := c.dep (j := 47) (d := 46) (by decide) rfl;have g1 : v1 = .pointer (some ⟨x.M, 20, none⟩) := g1;subst g1;have hc := (c.hB.2.2.2.2.1.cell (bj m.cval)).trans m.cval;exact c.value q2.symm (by decide) (by decide) (eF (by decide) q1.symm (bu p1) hc) (aq _ _) rfl hK
theorem uL (_m : OpM x w0) (c : OpC x E w0 ops 49 o listed a w) (hK : HKt x E w0 o listed a w K 49) : Oper.wp Tryz.prog o a w K Q := by
 obtain ⟨q1, q2⟩ := aP (aD (bx c.htab c.ho));obtain ⟨v1, p1, g1⟩ := c.dep (j := 48) (d := 47) (by decide) rfl;have g1 : v1 = .string ⟨x.value.toArray⟩ := g1;subst g1;exact c.enter q2.symm (by decide) (by decide) (dg q1.symm rfl (bu p1) (fun args => cI _ (by decide) args w)) ((bz x.value w).mono fun e w' h => ⟨⟨_, h.1, rfl⟩, h.2⟩) hK
theorem uM (_m : OpM x w0) (c : OpC x E w0 ops 50 o listed a w) (hK : HKt x E w0 o listed a w K 50) : Oper.wp Tryz.prog o a w K Q := by
 obtain ⟨q1, q2⟩ := aP (aD (bx c.htab c.ho));obtain ⟨v1, p1, g1⟩ := c.dep (j := 46) (d := 45) (by decide) rfl;obtain ⟨v2, p2, g2⟩ := c.dep (j := 49) (d := 48) (by decide) rfl;have g1 : v1 = .agg (elA (.mk 0 4 false x.typ []) (Sn)) := g1;subst g1;have g2 : v2 = .agg (elA (.mk 0 4 false x.value []) (Sn)) := g2;subst g2;exact c.value q2.symm (by decide) (by decide) (fZ q1.symm (bu p1) (bu p2)) ((aq _ _).alloc (ah _) _) (f9 (ga _ w) (ga _ w)) hK
theorem uN (m : OpM x w0) (c : OpC x E w0 ops 51 o listed a w) (hK : HKt x E w0 o listed a w K 51) : Oper.wp Tryz.prog o a w K Q := by
 obtain ⟨q1, q2⟩ := aP (aD (bx c.htab c.ho));obtain ⟨v1, p1, g1⟩ := c.dep (j := 50) (d := 49) (by decide) rfl;have g1 : bf (fun _ => True) w v1 [(.mk 0 4 false x.typ []), (.mk 0 4 false x.value [])] := g1;refine c.enter q2.symm (by decide) (by decide) (dg q1.symm rfl (bu p1) (fun args => cI _ (by decide) args w)) ((cH _ v1 w g1 (by simp [SmL, SmE]; exact ⟨m.styp, m.sval⟩) (by simp)).mono ?_) hK;rintro e w' ⟨⟨u, rfl, hu⟩, hb⟩;exact ⟨⟨_, rfl, u, rfl, hu.mono fun _ _ _ => trivial⟩, hb⟩
theorem uO (_m : OpM x w0) (c : OpC x E w0 ops 52 o listed a w) (hK : HKt x E w0 o listed a w K 52) : Oper.wp Tryz.prog o a w K Q := by
 obtain ⟨q1, q2⟩ := aP (aD (bx c.htab c.ho));obtain ⟨v1, p1, g1⟩ := c.dep (j := 43) (d := 42) (by decide) rfl;obtain ⟨v2, p2, g2⟩ := c.dep (j := 51) (d := 50) (by decide) rfl;have g1 : v1 = .agg (elA (.mk 0 4 false x.dn []) (Sn)) := g1;subst g1;obtain ⟨u2, e2, k2⟩ : eM [(.mk 0 4 false x.typ []), (.mk 0 4 false x.value [])] v2 w := g2;obtain ⟨b2, l2, s2⟩ := k2.shape;subst s2;subst e2;exact c.value q2.symm (by decide) (by decide) (fZ q1.symm (bu p1) (bu p2)) ((aq _ _).alloc (ah _) _) (f9 (ga _ w) k2) hK
theorem uP (_m : OpM x w0) (c : OpC x E w0 ops 53 o listed a w) (hK : HKt x E w0 o listed a w K 53) : Oper.wp Tryz.prog o a w K Q := by
 obtain ⟨q1, q2⟩ := aP (aD (bx c.htab c.ho));obtain ⟨v1, p1, g1⟩ := c.dep (j := 40) (d := 39) (by decide) rfl;have g1 : v1 = .func (.func 114) #[] #[] := g1;subst g1;obtain ⟨v2, p2, g2⟩ := c.dep (j := 52) (d := 51) (by decide) rfl;have g2 : bf (fun _ => True) w v2 [(.mk 0 4 false x.dn []), .mk 0 16 true [] [(.mk 0 4 false x.typ []), (.mk 0 4 false x.value [])]] := g2;have hs : ∃ a n c, v2 = .slice a n c := by
  obtain ⟨b, n, s⟩ := g2.shape;exact ⟨_, _, _, s⟩
 refine c.enter q2.symm (by decide) (by decide) (dg q1.symm (bu p1) (bu p2) (fun args => cI _ (by decide) args w)) ((gK v2 w hs).mono ?_) hK;rintro e w' ⟨⟨b, rfl, hc⟩, hb⟩;exact ⟨⟨_, rfl, b, v2, rfl, hc, g2.below hb⟩, hb⟩
theorem uQ (_m : OpM x w0) (c : OpC x E w0 ops 54 o listed a w) (hK : HKt x E w0 o listed a w K 54) : Oper.wp Tryz.prog o a w K Q := by
 obtain ⟨q1, q2⟩ := aP (aD (bx c.htab c.ho));obtain ⟨v1, p1, g1⟩ := c.dep (j := 53) (d := 52) (by decide) rfl;exact ee c q1.symm q2.symm (by decide) (by decide) (bu p1) g1 (fun _ _ => trivial) hK
theorem uR (_m : OpM x w0) (c : OpC x E w0 ops 55 o listed a w) (hK : HKt x E w0 o listed a w K 55) : Oper.wp Tryz.prog o a w K Q := by
 obtain ⟨q1, q2⟩ := aP (aD (bx c.htab c.ho));exact c.value q2.symm (by decide) (by decide) (eD q1.symm (bu c.hB.1)) (aq _ _) rfl hK
theorem uS (_m : OpM x w0) (c : OpC x E w0 ops 56 o listed a w) (hK : HKt x E w0 o listed a w K 56) : Oper.wp Tryz.prog o a w K Q := by
 obtain ⟨q1, q2⟩ := aP (aD (bx c.htab c.ho));obtain ⟨v1, p1, g1⟩ := c.dep (j := 55) (d := 53) (by decide) rfl;exact ee c q1.symm q2.symm (by decide) (by decide) (bu p1) g1 (fun _ _ => trivial) hK
theorem uT (_m : OpM x w0) (c : OpC x E w0 ops 57 o listed a w) (hK : HKt x E w0 o listed a w K 57) : Oper.wp Tryz.prog o a w K Q := by
 obtain ⟨q1, q2⟩ := aP (aD (bx c.htab c.ho));exact c.value q2.symm (by decide) (by decide) (eD q1.symm (bu c.hB.1)) (aq _ _) rfl hK
theorem uU (_m : OpM x w0) (c : OpC x E w0 ops 58 o listed a w) (hK : HKt x E w0 o listed a w K 58) : Oper.wp Tryz.prog o a w K Q := by
 obtain ⟨q1, q2⟩ := aP (aD (bx c.htab c.ho));obtain ⟨v1, p1, g1⟩ := c.dep (j := 57) (d := 54) (by decide) rfl;exact ee c q1.symm q2.symm (by decide) (by decide) (bu p1) g1 (fun _ _ => trivial) hK
theorem uV (_m : OpM x w0) (c : OpC x E w0 ops 59 o listed a w) (hK : HKt x E w0 o listed a w K 59) : Oper.wp Tryz.prog o a w K Q := by
 obtain ⟨q1, q2⟩ := aP (aD (bx c.htab c.ho));obtain ⟨r, hr7, _, hm⟩ := c.hB.2.2.2.2.2.2 (c.came (by decide));have hW : ∀ p ∈ opL, (59, p.1) ∈ opW := by decide
 exact c.value q2.symm (by decide) (by decide) (gj q1.symm (bu hr7)) (aq _ _) ⟨r, rfl, hm.keep rfl (fun _ _ q => q) (fun p hp => (c.came (hW p hp)).symm)⟩ hK
theorem uW (_m : OpM x w0) (c : OpC x E w0 ops 60 o listed a w) (hK : HKt x E w0 o listed a w K 60) : Oper.wp Tryz.prog o a w K Q := by
 obtain ⟨q1, q2⟩ := aP (aD (bx c.htab c.ho));obtain ⟨v1, p1, g1⟩ := c.dep (j := 59) (d := 55) (by decide) rfl;exact c.value q2.symm (by decide) (by decide) (nO q1.symm (bu p1)) (aq _ _) g1 hK
end
theorem lJ {x : OpX} {E : Value} {w0 : World} {ops : Array Oper} {Q : Exit → Act → World → Prop} (m : OpM x w0) (hok : kI .any 74 ops = true) (htab : ops.toList.map (fun o => (o.op, o.dst)) = opT) (hwt : (opW.all fun p => ma ops p.1 p.2) = true)
  (a : Act) (w : World) (hn : a.tmps.size = 74) (h1 : a.tmps[1]? = some (.pointer (some ⟨x.M, 0, none⟩))) (h2 : a.tmps[2]? = some E) (h3 : a.tmps[3]? = some (.func (.func 114) #[] #[])) (h4 : a.defers = []) (h5 : Below w0.heap.size w0 w)
  (hdone : ∀ (a : Act) (w : World) (r : Nat), a.tmps.size = 74 → a.tmps[1]? = some (.pointer (some ⟨x.M, 0, none⟩)) → a.tmps[2]? = some E → a.tmps[3]? = some (.func (.func 114) #[] #[]) → a.tmps[4]? = some (.map (some r)) → a.defers = [] → Below w0.heap.size w0 w → ey opL (opV x) (fun _ => true) r w → Q .normal a w) :
  wpAny Tryz.prog .any ops Q ops.size (Array.replicate ops.size false) a w := by
 have hsz : ops.size = 61 := by
  have := congrArg List.length htab
  simpa [opT] using this
 refine pw 74 hok (opG x) (opH x) (opB x E w0) (sn x) ?_ a w hn ⟨h1, h2, h3, h4, h5, fun p _ q => ?_, fun q => ?_⟩ ?_
 ·intro i o listed a w ho hi hls hn hB hg hall K' hK
  have c : OpC x E w0 ops i o listed a w := ⟨ho, hi, hls, hn, hB, hg, hall, hok, htab, hwt⟩;have hlt : i < 61 := by rw [← hsz]; exact (gl ho)
  clear ho hi hls hn hB hg hall;rcases Nat.lt_succ_iff_lt_or_eq.1 hlt with hlt | rfl;rotate_left
  ·exact uW m c hK
  rcases Nat.lt_succ_iff_lt_or_eq.1 hlt with hlt | rfl;rotate_left
  ·exact uV m c hK
  rcases Nat.lt_succ_iff_lt_or_eq.1 hlt with hlt | rfl;rotate_left
  ·exact uU m c hK
  rcases Nat.lt_succ_iff_lt_or_eq.1 hlt with hlt | rfl;rotate_left
  ·exact uT m c hK
  rcases Nat.lt_succ_iff_lt_or_eq.1 hlt with hlt | rfl;rotate_left
  ·exact uS m c hK
  rcases Nat.lt_succ_iff_lt_or_eq.1 hlt with hlt | rfl;rotate_left
  ·exact uR m c hK
  rcases Nat.lt_succ_iff_lt_or_eq.1 hlt with hlt | rfl;rotate_left
  ·exact uQ m c hK
  rcases Nat.lt_succ_iff_lt_or_eq.1 hlt with hlt | rfl;rotate_left
  ·exact uP m c hK
  rcases Nat.lt_succ_iff_lt_or_eq.1 hlt with hlt | rfl;rotate_left
  ·exact uO m c hK
  rcases Nat.lt_succ_iff_lt_or_eq.1 hlt with hlt | rfl;rotate_left
  ·exact uN m c hK
  rcases Nat.lt_succ_iff_lt_or_eq.1 hlt with hlt | rfl;rotate_left
  ·exact uM m c hK
  rcases Nat.lt_succ_iff_lt_or_eq.1 hlt with hlt | rfl;rotate_left
  ·exact uL m c hK
  rcases Nat.lt_succ_iff_lt_or_eq.1 hlt with hlt | rfl;rotate_left
  ·exact uK m c hK
  rcases Nat.lt_succ_iff_lt_or_eq.1 hlt with hlt | rfl;rotate_left
  ·exact uJ m c hK
  rcases Nat.lt_succ_iff_lt_or_eq.1 hlt with hlt | rfl;rotate_left
  ·exact uI m c hK
  rcases Nat.lt_succ_iff_lt_or_eq.1 hlt with hlt | rfl;rotate_left
  ·exact uH m c hK
  rcases Nat.lt_succ_iff_lt_or_eq.1 hlt with hlt | rfl;rotate_left
  ·exact uG m c hK
  rcases Nat.lt_succ_iff_lt_or_eq.1 hlt with hlt | rfl;rotate_left
  ·exact uE m c hK
  rcases Nat.lt_succ_iff_lt_or_eq.1 hlt with hlt | rfl;rotate_left
  ·exact uD m c hK
  rcases Nat.lt_succ_iff_lt_or_eq.1 hlt with hlt | rfl;rotate_left
  ·exact uC m c hK
  rcases Nat.lt_succ_iff_lt_or_eq.1 hlt with hlt | rfl;rotate_left
  ·exact uB m c hK
  rcases Nat.lt_succ_iff_lt_or_eq.1 hlt with hlt | rfl;rotate_left
  ·exact uA m c hK
  rcases Nat.lt_succ_iff_lt_or_eq.1 hlt with hlt | rfl;rotate_left
  ·exact uz m c hK
  rcases Nat.lt_succ_iff_lt_or_eq.1 hlt with hlt | rfl;rotate_left
  ·exact uy m c hK
  rcases Nat.lt_succ_iff_lt_or_eq.1 hlt with hlt | rfl;rotate_left
  ·exact ux m c hK
  rcases Nat.lt_succ_iff_lt_or_eq.1 hlt with hlt | rfl;rotate_left
  ·exact uw m c hK
  rcases Nat.lt_succ_iff_lt_or_eq.1 hlt with hlt | rfl;rotate_left
  ·exact uv m c hK
  rcases Nat.lt_succ_iff_lt_or_eq.1 hlt with hlt | rfl;rotate_left
  ·exact ut m c hK
  rcases Nat.lt_succ_iff_lt_or_eq.1 hlt with hlt | rfl;rotate_left
  ·exact ur m c hK
  rcases Nat.lt_succ_iff_lt_or_eq.1 hlt with hlt | rfl;rotate_left
  ·exact uq m c hK
  rcases Nat.lt_succ_iff_lt_or_eq.1 hlt with hlt | rfl;rotate_left
  ·exact un m c hK
  rcases Nat.lt_succ_iff_lt_or_eq.1 hlt with hlt | rfl;rotate_left
  ·exact um m c hK
  rcases Nat.lt_succ_iff_lt_or_eq.1 hlt with hlt | rfl;rotate_left
  ·exact ul m c hK
  rcases Nat.lt_succ_iff_lt_or_eq.1 hlt with hlt | rfl;rotate_left
  ·exact uk m c hK
  rcases Nat.lt_succ_iff_lt_or_eq.1 hlt with hlt | rfl;rotate_left
  ·exact uj m c hK
  rcases Nat.lt_succ_iff_lt_or_eq.1 hlt with hlt | rfl;rotate_left
  ·exact ui m c hK
  rcases Nat.lt_succ_iff_lt_or_eq.1 hlt with hlt | rfl;rotate_left
  ·exact uh m c hK
  rcases Nat.lt_succ_iff_lt_or_eq.1 hlt with hlt | rfl;rotate_left
  ·exact ug m c hK
  rcases Nat.lt_succ_iff_lt_or_eq.1 hlt with hlt | rfl;rotate_left
  ·exact ue m c hK
  rcases Nat.lt_succ_iff_lt_or_eq.1 hlt with hlt | rfl;rotate_left
  ·exact ud m c hK
  rcases Nat.lt_succ_iff_lt_or_eq.1 hlt with hlt | rfl;rotate_left
  ·exact uc m c hK
  rcases Nat.lt_succ_iff_lt_or_eq.1 hlt with hlt | rfl;rotate_left
  ·exact ua m c hK
  rcases Nat.lt_succ_iff_lt_or_eq.1 hlt with hlt | rfl;rotate_left
  ·exact tZ m c hK
  rcases Nat.lt_succ_iff_lt_or_eq.1 hlt with hlt | rfl;rotate_left
  ·exact tY m c hK
  rcases Nat.lt_succ_iff_lt_or_eq.1 hlt with hlt | rfl;rotate_left
  ·exact tX m c hK
  rcases Nat.lt_succ_iff_lt_or_eq.1 hlt with hlt | rfl;rotate_left
  ·exact tW m c hK
  rcases Nat.lt_succ_iff_lt_or_eq.1 hlt with hlt | rfl;rotate_left
  ·exact tV m c hK
  rcases Nat.lt_succ_iff_lt_or_eq.1 hlt with hlt | rfl;rotate_left
  ·exact tU m c hK
  rcases Nat.lt_succ_iff_lt_or_eq.1 hlt with hlt | rfl;rotate_left
  ·exact tT m c hK
  rcases Nat.lt_succ_iff_lt_or_eq.1 hlt with hlt | rfl;rotate_left
  ·exact tS m c hK
  rcases Nat.lt_succ_iff_lt_or_eq.1 hlt with hlt | rfl;rotate_left
  ·exact tR m c hK
  rcases Nat.lt_succ_iff_lt_or_eq.1 hlt with hlt | rfl;rotate_left
  ·exact vE m c hK
  rcases Nat.lt_succ_iff_lt_or_eq.1 hlt with hlt | rfl;rotate_left
  ·exact vD m c hK
  rcases Nat.lt_succ_iff_lt_or_eq.1 hlt with hlt | rfl;rotate_left
  ·exact vC m c hK
  rcases Nat.lt_succ_iff_lt_or_eq.1 hlt with hlt | rfl;rotate_left
  ·exact vB m c hK
  rcases Nat.lt_succ_iff_lt_or_eq.1 hlt with hlt | rfl;rotate_left
  ·exact vA m c hK
  rcases Nat.lt_succ_iff_lt_or_eq.1 hlt with hlt | rfl;rotate_left
  ·exact vy m c hK
  rcases Nat.lt_succ_iff_lt_or_eq.1 hlt with hlt | rfl;rotate_left
  ·exact vx m c hK
  rcases Nat.lt_succ_iff_lt_or_eq.1 hlt with hlt | rfl;rotate_left
  ·exact vw m c hK
  rcases Nat.lt_succ_iff_lt_or_eq.1 hlt with hlt | rfl;rotate_left
  ·exact vv m c hK
  rcases Nat.lt_succ_iff_lt_or_eq.1 hlt with hlt | rfl;rotate_left
  ·exact vu m c hK
  exact absurd hlt (Nat.not_lt_zero _)
 ·by_cases h : p.1 < ops.size <;> simp [h] at q
 ·simp [hsz] at q
 ·intro listed a w hall hn hB hg
  obtain ⟨q1, q2, q3, q4, q5, _, _⟩ := hB;obtain ⟨o', ho', _, hd⟩ := mN htab (i := 60) rfl;obtain ⟨r, e, hm⟩ : ∃ r, fp a o' = .map (some r) ∧ ey opL (opV x) (fun _ => true) r w := hg 60 o' ho';have h4 := ox hd (by rw [hn]; exact ((iP hok ho').2.2 _ hd).1);rw [e] at h4;exact hdone a w r hn q1 q2 q3 h4 q4 q5 hm
end Go.Proofs.YthjaiigijbjloaaGreatDoor
