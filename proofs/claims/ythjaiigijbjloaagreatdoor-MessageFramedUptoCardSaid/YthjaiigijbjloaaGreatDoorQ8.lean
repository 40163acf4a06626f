/- MsN, Tab. -/
import Derived.MapKept
import Derived.Test.YthjaiigijbjloaaGreatDoorQ7
namespace Go.Proofs.YthjaiigijbjloaaGreatDoor
open Go.RowKit Go.Lib
def Hk (w w' : World) : Prop := (∀ (g : Nat) (cs : Array Value) (t : TypeId) (fr : Nat × Nat), w.heap[g]? = some (.cells cs t fr) → w'.heap[g]? = some (.cells cs t fr)) ∧ ∀ (g i : Nat) (x : Value), w.cell? ⟨g, i, none⟩ = some x → w'.cell? ⟨g, i, none⟩ = some x
theorem Hk.refl (w : World) : Hk w w := ⟨fun _ _ _ _ h => h, fun _ _ _ h => h⟩
theorem Hk.trans {a b c : World} (h : Hk a b) (k : Hk b c) : Hk a c := ⟨fun _ _ _ _ q => k.1 _ _ _ _ (h.1 _ _ _ _ q), fun _ _ _ q => k.2 _ _ _ (h.2 _ _ _ q)⟩
theorem Hk.below {w w' : World} (h : Below w.heap.size w w') : Hk w w' := ⟨fun g _ _ _ q => (h.block g (gl q)).trans q, fun _ _ _ q => (h.cell (lt_of_cell q)).trans q⟩
theorem Hk.map {w w' : World} {r : Nat} {es : Array MapEntry} {c : Nat} (hr : w.heap[r]? = some (.map es c)) (h : ∀ j, j ≠ r → w'.heap[j]? = w.heap[j]?) : Hk w w' := by
 refine ⟨fun g cs t fr q => ?_, fun g i x q => ?_⟩
 ·by_cases hg : g = r
  ·subst hg; rw [hr] at q; cases q
  ·exact (h g hg).trans q
 ·by_cases hg : g = r
  ·subst hg; simp [World.cell?, hr] at q
  ·exact (cell_same (h g hg)).trans q
mutual
theorem ElC.hk {P : Nat → Prop} {w w' : World} (h : Hk w w') : ∀ (e : El) (g o : Nat), ElC P w e g o → ElC P w' e g o
 | .mk c t k b ks, g, o, q => by
  simp only [ElC] at q ⊢
  obtain ⟨h0, h1, h2, h3, u, h4, a, cap, hu, hc, hk⟩ := q
  refine ⟨h.2 _ _ _ h0, h.2 _ _ _ h1, h.2 _ _ _ h2, h.2 _ _ _ h3, u, h.2 _ _ _ h4, a, cap, hu, hc, fun hn => ?_⟩
  obtain ⟨g', o', ha, hp, hs⟩ := hk hn
  exact ⟨g', o', ha, hp, ElsC.hk h ks g' o' hs⟩
theorem ElsC.hk {P : Nat → Prop} {w w' : World} (h : Hk w w') : ∀ (l : List El) (g o : Nat), ElsC P w l g o → ElsC P w' l g o
 | [], _, _, _ => by simp only [ElsC]
 | e :: r, g, o, q => by
  simp only [ElsC] at q ⊢
  exact ⟨ElC.hk h e g o q.1, ElsC.hk h r g (o + 5) q.2⟩
end
theorem KidsAt.hk {P : Nat → Prop} {w w' : World} {v : Value} {ks : List El} (q : KidsAt P w v ks) (h : Hk w w') : KidsAt P w' v ks := by
 obtain ⟨a, cap, hv, hc, hk⟩ := q
 refine ⟨a, cap, hv, hc, fun hn => ?_⟩
 obtain ⟨g, o, ha, hp, hs⟩ := hk hn
 exact ⟨g, o, ha, hp, ElsC.hk h ks g o hs⟩
/-! A region in every order: by what holds behind each of its operations. -/
def openOnes (listed : Array Bool) : Nat := (listed.toList.filter (!·)).length
theorem filter_set : ∀ (l : List Bool) (i : Nat), l[i]? = some false → ((l.set i true).filter (!·)).length + 1 = (l.filter (!·)).length
 | [], i, h => by simp at h
 | b :: l, 0, h => by
  simp at h
  subst h
  simp
 | b :: l, i + 1, h => by
  have ih := filter_set l i (by simpa using h)
  cases b <;> simp at ih ⊢ <;> omega
theorem open_set {listed : Array Bool} {i : Nat} (h : listed.getD i true = false) : openOnes (listed.setIfInBounds i true) + 1 = openOnes listed := by
 unfold openOnes
 have h1 : listed.toList[i]? = some false := by
  rcases Nat.lt_or_ge i listed.size with h' | h'
  ·simp [h'] at h ⊢; exact h
  ·simp [Array.getElem?_eq_none h'] at h
 rw [Array.toList_setIfInBounds]
 exact filter_set _ _ h1
theorem all_listed {md : Region.Mode} {ops : Array Oper} (hdown : ∀ (i : Nat) (o : Oper), ops[i]? = some o → ∀ e ∈ o.after, Region.binds md e = true → e.on < i) {listed : Array Bool} (hsz : listed.size = ops.size) (hr : Region.ready md ops listed = []) :
  ∀ i, i < ops.size → listed.getD i false = true := by
 intro i
 induction i using Nat.strongRecOn with
 | _ i ih =>
  intro hi
  cases hx : listed.getD i false with
  | true => rfl
  | false =>
   exfalso
   have ho : ops[i]? = some ops[i] := by simp [hi]
   have hm : i ∈ Region.ready md ops listed := mem_ready.2 ⟨by
    have : i < listed.size := by omega
    simp [this] at hx ⊢; exact hx, ops[i], ho, fun e he hb => ih e.on (hdown i _ ho e he hb) (by have := hdown i _ ho e he hb; omega)⟩
   rw [hr] at hm
   cases hm
theorem wpAny_inv {P : Program} {md : Region.Mode} {ops : Array Oper} {Q : Exit → Act → World → Prop} (I : Array Bool → Act → World → Prop)
  (hdown : ∀ (i : Nat) (o : Oper), ops[i]? = some o → ∀ e ∈ o.after, Region.binds md e = true → e.on < i)
  (hdone : ∀ (listed : Array Bool) (a : Act) (w : World), (∀ i, i < ops.size → listed.getD i false = true) → I listed a w → Q .normal a w)
  (hstep : ∀ (i : Nat) (o : Oper) (listed : Array Bool) (a : Act) (w : World), ops[i]? = some o → listed.getD i true = false → listed.size = ops.size → (∀ e ∈ o.after, Region.binds md e = true → listed.getD e.on false = true) → I listed a w →
   wpOp P ops Q i (I (listed.setIfInBounds i true)) a w) :
  ∀ (fuel : Nat) (listed : Array Bool) (a : Act) (w : World), listed.size = ops.size → openOnes listed ≤ fuel → I listed a w → wpAny P md ops Q fuel listed a w := by
 intro fuel
 induction fuel with
 | zero =>
  intro listed a w hsz hf hI
  have hr : Region.ready md ops listed = [] := by
   cases hx : Region.ready md ops listed with
   | nil => rfl
   | cons j js =>
    have hj : j ∈ Region.ready md ops listed := by rw [hx]; exact List.mem_cons_self
    have := open_set (mem_ready.1 hj).1
    omega
  exact ⟨hr, hdone _ _ _ (all_listed hdown hsz hr) hI⟩
 | succ fuel ih =>
  intro listed a w hsz hf hI
  refine ⟨fun hr => hdone _ _ _ (all_listed hdown hsz hr) hI, fun i hi => ?_⟩
  obtain ⟨hn, o, ho, hall⟩ := mem_ready.1 hi
  have h1 := open_set hn
  exact wpOp_mono (fun a' w' h => ih _ a' w' (by simpa using hsz) (by omega) h) (hstep i o listed a w ho hn hsz hall hI)
theorem wpOp_of {P : Program} {ops : Array Oper} {Q : Exit → Act → World → Prop} {K : Act → World → Prop} {i : Nat} {o : Oper} {a : Act} {w : World} (ho : ops[i]? = some o) (hw : Region.wanted o (yielded ops a.tmps) = true)
  (h : ∀ K' : Act → World → Prop, (∀ a w, K a w → K' a w) → Oper.wp P o a w K' Q) : wpOp P ops Q i K a w := by
 unfold wpOp
 rw [ho]
 simp only [hw, if_true]
 exact .inl (h _ (fun _ _ k => k))
/-! message.op's closures over a row of elements. -/
set_option maxRecDepth 100000 in
theorem clos_any (v : Value) (w : World) (hv : ∃ a n c, v = .slice a n c) :
  Calls Tryz.prog 114 #[v] w fun e w' => (∃ b, e = .returned (.func (.func 115) #[] #[.pointer (some ⟨b, 0, none⟩)]) ∧ w'.cell? ⟨b, 0, none⟩ = some v) ∧ Below w.heap.size w w' := by
 have hmf : ∀ (fn : Fn) (first cap : Array Value) (w : World), (Instr.makeFunc fn first cap).run Tryz.prog w = .ok (.func fn first cap) w := fun _ _ _ _ => rfl
 obtain ⟨a, n, c, rfl⟩ := hv
 have b1 : Below w.heap.size w (w.alloc (.cells #[.slice a n c] 43)) := (Below.refl _ _).alloc (Nat.le_refl _) _
 have c1 : (w.alloc (.cells #[.slice a n c] 43)).cell? ⟨w.heap.size, 0, none⟩ = some (.slice a n c) := (cell_of_heap (alloc_at w (.cells #[.slice a n c] 43) w.heap.size rfl) 0).trans rfl
 have C1 := hid c1
 clear c1
 go_enter Tryz.func114, Tryz.ntmps114
 go_wp2_with fail
 go_ret
 exact ⟨⟨_, rfl, C1.out⟩, b1⟩
set_option maxRecDepth 100000 in
theorem clos1_any (b : Nat) (v : Value) (l : List El) (w : World) (hc : w.cell? ⟨b, 0, none⟩ = some v) (h : KidsAt (fun _ => True) w v l) (hs : SmL l) (hl : l.length ≤ 1000000000) :
  Calls Tryz.prog 115 #[.pointer (some ⟨b, 0, none⟩)] w fun e w' => (∃ u, e = .returned (.agg (elA (.mk 0 16 true [] l) u)) ∧ KidsAt (fun g => w.heap.size ≤ g) w' u l) ∧ Below w.heap.size w w' := by
 have b1 : Below w.heap.size w (w.alloc (.cells Ze 45)) := (Below.refl _ _).alloc (Nat.le_refl _) _
 have t1 : (w.alloc (.cells Ze 45)).heap[w.heap.size]? = some (.cells Ze 45 (0, 0)) := alloc_at _ _ _ rfl
 have c1 := (b1.cell (lt_of_cell hc)).trans hc
 have ks := Seq_any l v (w.alloc (.cells Ze 45)) (h.below b1) hs hl
 clear hc h hs hl
 go_enter Tryz.func115, Tryz.ntmps115
 go_wp2_with fail
 generalize w.alloc (.cells Ze 45) = w1 at b1 t1 c1 ks ⊢
 refine Calls.mono ks ?_
 rintro e w2 ⟨⟨u, rfl, hu⟩, hb2⟩
 have t2 := (hb2.block _ (gl t1)).trans t1
 have b2 := b1.trans (hb2.mono b1.size)
 have hs1 := b1.size
 obtain ⟨E, hE⟩ : ∃ E, elA (.mk 0 16 true [] l) u = E := ⟨_, rfl⟩
 have hE1 : E.all (·.oneCell') = true := by
  obtain ⟨a, c, hsl⟩ := hu.shape
  subst hsl
  rw [← hE]; simp [elA, Value.oneCell']
 have hE2 : E.size = 5 := by rw [← hE]; rfl
 rw [hE]
 have b3 := below_row b2 (g := w.heap.size) (Nat.le_refl _) E
 have t3 := setRow_heap w2 w.heap.size _ E _ _ t2
 have htl := (gl t1)
 have u3 : KidsAt (fun g => w.heap.size ≤ g) (w2.setRow w.heap.size E) u l := hu.kept fun g hg hl => ⟨setRow_other w2 w.heap.size g E (by omega), by omega⟩
 have HE := hid hE
 have HE1 := hid hE1
 have HE2 := hid hE2
 have U3 := hid u3
 clear ks c1 t1 b1 hb2 hu hE hE1 hE2 u3
 go_wp2_with (refine wpList_storeRow rfl 45 (.tmp 1) (.tmp 3) rfl w.heap.size 45 _ E (by rfl) (by rfl) t2 (by rw [HE2.out]; rfl) (by rw [HE2.out]; rfl) HE1.out ?_)
 refine bodyPost_ret (v := .agg E) ?_ rfl ⟨⟨u, by rw [HE.out], U3.out⟩, b3⟩
 have hr := run_loadVar_row (P := Tryz.prog) (w2.setRow w.heap.size E) w.heap.size 45 45 E (0, 0) _ t3 (show Tryz.prog.underlying 45 = _ from Tryz.underlying45) (by rfl) (by rw [HE2.out]; rfl)
 simp [results, Tryz.f115]
 exact hr
def slotV (a : Act) (o : Oper) : Value := match o.dst with | some d => a.tmps.getD d undef | none => undef
theorem slotV_put {a : Act} {o : Oper} {v : Value} (hd : ∀ d, o.dst = some d → d < a.tmps.size) : slotV (a.put o.dst v) o = match o.dst with | some _ => v | none => undef := by
 unfold slotV Act.put
 cases h : o.dst with
 | none => rfl
 | some d => simp [hd d h]
theorem slotV_other {a : Act} {o o' : Oper} {v : Value} (h : ∀ d, o.dst = some d → o'.dst ≠ some d) : slotV (a.put o.dst v) o' = slotV a o' := by
 unfold slotV Act.put
 cases h1 : o.dst with
 | none => rfl
 | some d =>
  cases h2 : o'.dst with
  | none => rfl
  | some d' =>
   have : d ≠ d' := fun e => h d h1 (e ▸ h2)
   simp [this]
theorem slot_at {a : Act} {o : Oper} {d : Nat} (hd : o.dst = some d) (hl : d < a.tmps.size) : a.tmps[d]? = some (slotV a o) := by
 unfold slotV
 rw [hd]
 simp [hl]
def tabOk (md : Region.Mode) (n : Nat) (ops : Array Oper) : Bool :=
 (List.range ops.size).all fun i => match ops[i]? with
  | none => false
  | some o => o.guard.isNone && (o.after.toList.all fun e => !Region.binds md e || decide (e.on < i)) && (match o.dst with | none => true | some d => decide (d < n) && ((List.range ops.size).all fun j => decide (j = i) || (match ops[j]? with | none => true | some o' => !(o'.dst == some d))))
theorem tabOk_at {md : Region.Mode} {n : Nat} {ops : Array Oper} (h : tabOk md n ops = true) {i : Nat} {o : Oper} (ho : ops[i]? = some o) :
  o.guard = none ∧ (∀ e ∈ o.after, Region.binds md e = true → e.on < i) ∧ ∀ d, o.dst = some d → d < n ∧ ∀ j o', ops[j]? = some o' → j ≠ i → o'.dst ≠ some d := by
 unfold tabOk at h
 rw [List.all_eq_true] at h
 have hi : i < ops.size := (gl ho)
 have h1 := h i (List.mem_range.2 hi)
 rw [ho] at h1
 simp only [Bool.and_eq_true, Option.isNone_iff_eq_none, List.all_eq_true, Bool.or_eq_true, Bool.not_eq_true', decide_eq_true_eq] at h1
 refine ⟨h1.1.1, fun e he hb => ?_, fun d hd => ?_⟩
 ·rcases h1.1.2 e (by simpa using he) with q | q
  ·rw [hb] at q; cases q
  ·exact q
 ·have h2 := h1.2
  rw [hd] at h2
  simp only [Bool.and_eq_true, decide_eq_true_eq, List.all_eq_true, Bool.or_eq_true] at h2
  refine ⟨h2.1, fun j o' hj hji he => ?_⟩
  have hjl : j < ops.size := (gl hj)
  rcases h2.2 j (List.mem_range.2 hjl) with q | q
  ·exact hji q
  ·rw [hj] at q
   simp [he] at q
theorem region_tab {P : Program} {md : Region.Mode} {ops : Array Oper} {Q : Exit → Act → World → Prop} (n : Nat) (hok : tabOk md n ops = true)
  (G : Nat → Value → World → Prop) (H : World → World → Prop) (B : Array Bool → Act → World → Prop)
  (hG : ∀ i v w w', H w w' → G i v w → G i v w')
  (hstep : ∀ (i : Nat) (o : Oper) (listed : Array Bool) (a : Act) (w : World), ops[i]? = some o → listed.getD i true = false → listed.size = ops.size → a.tmps.size = n → B listed a w →
   (∀ (j : Nat) (o' : Oper), ops[j]? = some o' → listed.getD j false = true → G j (slotV a o') w) → (∀ e ∈ o.after, Region.binds md e = true → listed.getD e.on false = true) →
   ∀ K' : Act → World → Prop, (∀ (v : Value) (w' : World), G i (match o.dst with | some _ => v | none => undef) w' → H w w' → B (listed.setIfInBounds i true) (a.put o.dst v) w' → K' (a.put o.dst v) w') → Oper.wp P o a w K' Q)
  (a : Act) (w : World) (hn : a.tmps.size = n) (hB : B (Array.replicate ops.size false) a w)
  (hdone : ∀ (listed : Array Bool) (a : Act) (w : World), (∀ i, i < ops.size → listed.getD i false = true) → a.tmps.size = n → B listed a w → (∀ (j : Nat) (o' : Oper), ops[j]? = some o' → G j (slotV a o') w) → Q .normal a w) :
  wpAny P md ops Q ops.size (Array.replicate ops.size false) a w := by
 have hput : ∀ (a : Act) (d : Option Tmp) (v : Value), (a.put d v).tmps.size = a.tmps.size := by
  intro a d v
  cases d <;> simp [Act.put]
 refine wpAny_inv (fun listed a w => a.tmps.size = n ∧ B listed a w ∧ ∀ (j : Nat) (o' : Oper), ops[j]? = some o' → listed.getD j false = true → G j (slotV a o') w) (fun i o ho => (tabOk_at hok ho).2.1) ?_ ?_ ops.size _ a w (by simp) ?_ ⟨hn, hB, ?_⟩
 ·intro listed a w hall ⟨h1, h2, h3⟩
  exact hdone listed a w hall h1 h2 (fun j o' hj => h3 j o' hj (hall j (gl hj)))
 ·intro i o listed a w ho hi hsz hall ⟨h1, h2, h3⟩
  obtain ⟨hgd, _, hds⟩ := tabOk_at hok ho
  have hil : i < ops.size := (gl ho)
  refine wpOp_of ho (by simp [Region.wanted, hgd]) fun K' hK' => ?_
  refine hstep i o listed a w ho hi hsz h1 h2 h3 hall K' (fun v w' hv hH hB' => hK' _ _ ⟨(hput _ _ _).trans h1, hB', fun j o' hj hl => ?_⟩)
  by_cases hji : j = i
  ·subst hji
   rw [ho] at hj
   cases hj
   rw [slotV_put (fun d hd => by rw [h1]; exact (hds d hd).1)]
   exact hv
  ·have hl' : listed.getD j false = true := by
    simpa [Array.getElem?_setIfInBounds, Ne.symm hji] using hl
   rw [slotV_other (fun d hd => (hds d hd).2 j o' hj hji)]
   exact hG _ _ _ _ hH (h3 j o' hj hl')
 ·simp [openOnes]
 ·intro j o' hj hl
  have := (gl hj)
  simp [this] at hl
/-! The operations one by one. -/
theorem wp_value {P : Program} {o : Oper} {a : Act} {w w' : World} {K : Act → World → Prop} {Q : Exit → Act → World → Prop} {v : Value} (hr : (execOp a.eval o).run P w = .ok (.value v) w') (h : K (a.put o.dst v) w') : Oper.wp P o a w K Q := by
 unfold Oper.wp
 rw [hr]
 exact h
theorem wp_enter {P : Program} {o : Oper} {a : Act} {w : World} {K : Act → World → Prop} {Q : Exit → Act → World → Prop} {f : FuncId} {args : Array Value} (hr : (execOp a.eval o).run P w = .ok (.enter f args) w) (h : Calls P f args w fun e w' => ∃ v, e = .returned v ∧ K (a.put o.dst v) w') : Oper.wp P o a w K Q := by
 unfold Oper.wp
 rw [hr, Oper.upon_enter]
 refine h.mono ?_
 rintro e w' ⟨v, rfl, hk⟩
 exact hk
/-! A map that the region fills. -/
theorem run_look {P : Program} (w : World) (mty kt et : TypeId) (r clock : Nat) (es : Array MapEntry) (k : Int) (z : Value) (hm : P.underlying mty = some (.map kt et)) (hk : P.underlying kt = some (.int .i64)) (hb : w.heap[r]? = some (.map es clock))
  (hint : ∀ x ∈ es.toList, ∃ k', x.key = .int .i64 k') (hz : (zeroValue et).run P w = .ok z w) :
  (∃ x, x ∈ es.toList ∧ x.key = .int .i64 k ∧ (Instr.lookup mty (.map (some r)) (.int .i64 k) true).run P w = .ok (.tuple #[x.val, .bool true]) w) ∨
   ((∀ x ∈ es.toList, x.key ≠ .int .i64 k) ∧ (Instr.lookup mty (.map (some r)) (.int .i64 k) true).run P w = .ok (.tuple #[z, .bool false]) w) := by
 have hkey : ∀ j : Int, MapKept.IsKey (.int .i64) (.int .i64 j) := fun j => by simp [MapKept.IsKey]
 have hc : (Instr.checkKey es.isEmpty 10000 kt (.int .i64 k)).run P w = .ok () w := MapKept.run_checkKey (k := .int .i64 k) hk (hkey k) es.isEmpty 9999
 rcases MapKept.findNow_spec (hkey k) es.toList 0 (fun x hx => by obtain ⟨k', e⟩ := hint x hx; rw [e]; exact hkey k') with ⟨h1, h2⟩ | ⟨j, e, h1, h2, h3⟩
 ·refine .inr ⟨h2, ?_⟩
  simp [Instr.lookup, run_underlying hm, MapKept.run_getObj_map hb, hc, MapKept.run_findKey hk h1, hz, Result.andThen]
 ·refine .inl ⟨e, List.mem_of_getElem? h2, h3, ?_⟩
  simp [Instr.lookup, run_underlying hm, MapKept.run_getObj_map hb, hc, MapKept.run_findKey hk h1, Result.andThen]
def MapAll (L : List (Nat × Int)) (V : Nat → Value → World → Prop) (listed : Nat → Bool) (r : Nat) (w : World) : Prop :=
 ∃ es c, w.heap[r]? = some (.map es c) ∧ (∀ x ∈ es.toList, ∃ p, p ∈ L ∧ listed p.1 = true ∧ x.key = .int .i64 p.2 ∧ V p.1 x.val w) ∧ ∀ p ∈ L, listed p.1 = true → ∃ x, x ∈ es.toList ∧ x.key = .int .i64 p.2
theorem MapAll.keep {L : List (Nat × Int)} {V : Nat → Value → World → Prop} {listed listed' : Nat → Bool} {r : Nat} {w w' : World} (h : MapAll L V listed r w) (hr : w'.heap[r]? = w.heap[r]?) (hV : ∀ i v, V i v w → V i v w') (hl : ∀ p ∈ L, listed' p.1 = listed p.1) : MapAll L V listed' r w' := by
 obtain ⟨es, c, h1, h2, h3⟩ := h
 refine ⟨es, c, hr.trans h1, fun x hx => ?_, fun p hp hlp => h3 p hp (by rw [← hl p hp]; exact hlp)⟩
 obtain ⟨p, hp, hq, hk, hv⟩ := h2 x hx
 exact ⟨p, hp, (hl p hp).trans hq, hk, hV _ _ hv⟩
theorem run_layAll {P : Program} {L : List (Nat × Int)} {V : Nat → Value → World → Prop} {listed : Nat → Bool} {r : Nat} {w : World} (mty kt et : TypeId) (i : Nat) (k : Int) (val : Value) (hm : P.underlying mty = some (.map kt et)) (hk : P.underlying kt = some (.int .i64))
  (h : MapAll L V listed r w) (hi : (i, k) ∈ L) (hinj : ∀ p ∈ L, p.2 = k → p.1 = i) (hdist : ∀ p ∈ L, p.1 = i → p.2 = k) (hn : listed i = false) (hV : ∀ i v w w', Hk w w' → V i v w → V i v w') (hval : V i val w) :
  ∃ w', (Instr.mapUpdate mty (.map (some r)) (.int .i64 k) val).run P w = .ok () w' ∧ MapAll L V (fun j => if j = i then true else listed j) r w' ∧ w'.heap.size = w.heap.size ∧ (∀ j, j ≠ r → w'.heap[j]? = w.heap[j]?) ∧ w'.os = w.os ∧ w'.tape = w.tape ∧ w'.output = w.output ∧ Hk w w' := by
 obtain ⟨es, c, h1, h2, h3⟩ := h
 have hkey : ∀ j : Int, MapKept.IsKey (.int .i64) (.int .i64 j) := fun j => by simp [MapKept.IsKey]
 have hnone : Instr.findNow (.int .i64) (.int .i64 k) es.toList 0 = some none := by
  rcases MapKept.findNow_spec (hkey k) es.toList 0 (fun x hx => by obtain ⟨p, _, _, e, _⟩ := h2 x hx; rw [e]; exact hkey p.2) with ⟨q, _⟩ | ⟨j, e, _, q2, q3⟩
  ·exact q
  ·exfalso
   obtain ⟨p, hp, hq, e', _⟩ := h2 e (List.mem_of_getElem? q2)
   rw [q3] at e'
   injection e' with _ e''
   have := hinj p hp e''.symm
   rw [this, hn] at hq
   cases hq
 obtain ⟨w', hr, hb, hs, ho, e1, e2, e3⟩ := run_lay_ex w mty kt et r c es k val hm hk h1 hnone
 have hH : Hk w w' := Hk.map h1 ho
 refine ⟨w', hr, ⟨_, _, hb, fun x hx => ?_, fun p hp hl => ?_⟩, hs, ho, e1, e2, e3, hH⟩
 ·simp only [Array.toList_push, List.mem_append, List.mem_singleton] at hx
  rcases hx with hx | rfl
  ·obtain ⟨p, hp, hq, e, hv⟩ := h2 x hx
   exact ⟨p, hp, by simp [hq], e, hV _ _ _ _ hH hv⟩
  ·exact ⟨(i, k), hi, by simp, rfl, hV _ _ _ _ hH hval⟩
 ·by_cases hpi : p.1 = i
  ·have hp2 : p = (i, p.2) := by rw [← hpi]
   by_cases hpk : p.2 = k
   ·exact ⟨_, by rw [Array.toList_push]; exact List.mem_append_right _ (List.mem_singleton.2 rfl), by rw [hpk]⟩
   ·simp only [hpi, if_true] at hl
    by_cases hli : listed p.1 = true
    ·rw [hpi, hn] at hli; cases hli
    ·exact absurd (hdist p hp hpi) hpk
  ·simp only [hpi, if_false] at hl
   obtain ⟨x, hx, e⟩ := h3 p hp hl
   exact ⟨x, by simp [hx], e⟩
end Go.Proofs.YthjaiigijbjloaaGreatDoor
