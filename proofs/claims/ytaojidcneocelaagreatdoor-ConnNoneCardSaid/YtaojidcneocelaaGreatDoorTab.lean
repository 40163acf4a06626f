/- A region in every order, told by what each of its operations leaves; a map of its own that it fills. -/
import Derived.Test.YtaojidcneocelaaGreatDoorMsN
import Derived.MapKept
namespace Go.Proofs.YtaojidcneocelaaGreatDoor
open Go.RowKit Go.Lib

/-- What an operation has laid into its slot. -/
def slotV (a : Act) (o : Oper) : Value := match o.dst with | some d => a.tmps.getD d undef | none => undef
theorem slotV_put {a : Act} {o : Oper} {v : Value} (hd : ∀ d, o.dst = some d → d < a.tmps.size) : slotV (a.put o.dst v) o = match o.dst with | some _ => v | none => undef := by
  unfold slotV Act.put
  cases h : o.dst with
  | none => rfl
  | some d => simp [hd d h]
theorem slotV_other {a : Act} {o o' : Oper} {v : Value} (h : ∀ d, o.dst = some d → o'.dst ≠ some d) : slotV (a.put o.dst v) o' = slotV a o' := by
  unfold slotV Act.put
  cases h1 : o.dst with
  | none => rfl
  | some d =>
    cases h2 : o'.dst with
    | none => rfl
    | some d' =>
      have : d ≠ d' := fun e => h d h1 (e ▸ h2)
      simp [this]
theorem slot_at {a : Act} {o : Oper} {d : Nat} (hd : o.dst = some d) (hl : d < a.tmps.size) : a.tmps[d]? = some (slotV a o) := by
  unfold slotV
  rw [hd]
  simp [hl]
/-- The edges of a region go down, no two operations have one slot, none has a guard. -/
def tabOk (md : Region.Mode) (n : Nat) (ops : Array Oper) : Bool :=
  (List.range ops.size).all fun i => match ops[i]? with
    | none => false
    | some o => o.guard.isNone && (o.after.toList.all fun e => !Region.binds md e || decide (e.on < i)) && (match o.dst with | none => true | some d => decide (d < n) && ((List.range ops.size).all fun j => decide (j = i) || (match ops[j]? with | none => true | some o' => !(o'.dst == some d))))
theorem tabOk_at {md : Region.Mode} {n : Nat} {ops : Array Oper} (h : tabOk md n ops = true) {i : Nat} {o : Oper} (ho : ops[i]? = some o) :
    o.guard = none ∧ (∀ e ∈ o.after, Region.binds md e = true → e.on < i) ∧ ∀ d, o.dst = some d → d < n ∧ ∀ j o', ops[j]? = some o' → j ≠ i → o'.dst ≠ some d := by
  unfold tabOk at h
  rw [List.all_eq_true] at h
  have hi : i < ops.size := (Array.getElem?_eq_some_iff.1 ho).1
  have h1 := h i (List.mem_range.2 hi)
  rw [ho] at h1
  simp only [Bool.and_eq_true, Option.isNone_iff_eq_none, List.all_eq_true, Bool.or_eq_true, Bool.not_eq_true', decide_eq_true_eq] at h1
  refine ⟨h1.1.1, fun e he hb => ?_, fun d hd => ?_⟩
  · rcases h1.1.2 e (by simpa using he) with q | q
    · rw [hb] at q; cases q
    · exact q
  · have h2 := h1.2
    rw [hd] at h2
    simp only [Bool.and_eq_true, decide_eq_true_eq, List.all_eq_true, Bool.or_eq_true] at h2
    refine ⟨h2.1, fun j o' hj hji he => ?_⟩
    have hjl : j < ops.size := (Array.getElem?_eq_some_iff.1 hj).1
    rcases h2.2 j (List.mem_range.2 hjl) with q | q
    · exact hji q
    · rw [hj] at q
      simp [he] at q
/-- A region in every order. G: what an operation's value and the world then are, told for each by its number; it lasts while H leads from world to world. B: what holds of all between. -/
theorem region_tab {P : Program} {md : Region.Mode} {ops : Array Oper} {Q : Exit → Act → World → Prop} (n : Nat) (hok : tabOk md n ops = true)
    (G : Nat → Value → World → Prop) (H : World → World → Prop) (B : Array Bool → Act → World → Prop)
    (hG : ∀ i v w w', H w w' → G i v w → G i v w')
    (hstep : ∀ (i : Nat) (o : Oper) (listed : Array Bool) (a : Act) (w : World), ops[i]? = some o → listed.getD i true = false → listed.size = ops.size → a.tmps.size = n → B listed a w →
      (∀ (j : Nat) (o' : Oper), ops[j]? = some o' → listed.getD j false = true → G j (slotV a o') w) → (∀ e ∈ o.after, Region.binds md e = true → listed.getD e.on false = true) →
      ∀ K' : Act → World → Prop, (∀ (v : Value) (w' : World), G i (match o.dst with | some _ => v | none => undef) w' → H w w' → B (listed.setIfInBounds i true) (a.put o.dst v) w' → K' (a.put o.dst v) w') → Oper.wp P o a w K' Q)
    (a : Act) (w : World) (hn : a.tmps.size = n) (hB : B (Array.replicate ops.size false) a w)
    (hdone : ∀ (listed : Array Bool) (a : Act) (w : World), (∀ i, i < ops.size → listed.getD i false = true) → a.tmps.size = n → B listed a w → (∀ (j : Nat) (o' : Oper), ops[j]? = some o' → G j (slotV a o') w) → Q .normal a w) :
    wpAny P md ops Q ops.size (Array.replicate ops.size false) a w := by
  have hput : ∀ (a : Act) (d : Option Tmp) (v : Value), (a.put d v).tmps.size = a.tmps.size := by
    intro a d v
    cases d <;> simp [Act.put]
  refine wpAny_inv (fun listed a w => a.tmps.size = n ∧ B listed a w ∧ ∀ (j : Nat) (o' : Oper), ops[j]? = some o' → listed.getD j false = true → G j (slotV a o') w) (fun i o ho => (tabOk_at hok ho).2.1) ?_ ?_ ops.size _ a w (by simp) ?_ ⟨hn, hB, ?_⟩
  · intro listed a w hall ⟨h1, h2, h3⟩
    exact hdone listed a w hall h1 h2 (fun j o' hj => h3 j o' hj (hall j (Array.getElem?_eq_some_iff.1 hj).1))
  · intro i o listed a w ho hi hsz hall ⟨h1, h2, h3⟩
    obtain ⟨hgd, _, hds⟩ := tabOk_at hok ho
    have hil : i < ops.size := (Array.getElem?_eq_some_iff.1 ho).1
    refine wpOp_of ho (by simp [Region.wanted, hgd]) fun K' hK' => ?_
    refine hstep i o listed a w ho hi hsz h1 h2 h3 hall K' (fun v w' hv hH hB' => hK' _ _ ⟨(hput _ _ _).trans h1, hB', fun j o' hj hl => ?_⟩)
    by_cases hji : j = i
    · subst hji
      rw [ho] at hj
      cases hj
      rw [slotV_put (fun d hd => by rw [h1]; exact (hds d hd).1)]
      exact hv
    · have hl' : listed.getD j false = true := by
        simpa [Array.getElem?_setIfInBounds, Ne.symm hji] using hl
      rw [slotV_other (fun d hd => (hds d hd).2 j o' hj hji)]
      exact hG _ _ _ _ hH (h3 j o' hj hl')
  · simp [openOnes]
  · intro j o' hj hl
    have := (Array.getElem?_eq_some_iff.1 hj).1
    simp [this] at hl
/-! The operations one by one. -/
theorem wp_value {P : Program} {o : Oper} {a : Act} {w w' : World} {K : Act → World → Prop} {Q : Exit → Act → World → Prop} {v : Value} (hr : (execOp a.eval o).run P w = .ok (.value v) w') (h : K (a.put o.dst v) w') : Oper.wp P o a w K Q := by
  unfold Oper.wp
  rw [hr]
  exact h
theorem wp_enter {P : Program} {o : Oper} {a : Act} {w : World} {K : Act → World → Prop} {Q : Exit → Act → World → Prop} {f : FuncId} {args : Array Value} (hr : (execOp a.eval o).run P w = .ok (.enter f args) w) (h : Calls P f args w fun e w' => ∃ v, e = .returned v ∧ K (a.put o.dst v) w') : Oper.wp P o a w K Q := by
  unfold Oper.wp
  rw [hr, Oper.upon_enter]
  refine h.mono ?_
  rintro e w' ⟨v, rfl, hk⟩
  exact hk
/-! A map that the region fills. -/
theorem run_look {P : Program} (w : World) (mty kt et : TypeId) (r clock : Nat) (es : Array MapEntry) (k : Int) (z : Value) (hm : P.underlying mty = some (.map kt et)) (hk : P.underlying kt = some (.int .i64)) (hb : w.heap[r]? = some (.map es clock))
    (hint : ∀ x ∈ es.toList, ∃ k', x.key = .int .i64 k') (hz : (zeroValue et).run P w = .ok z w) :
    (∃ x, x ∈ es.toList ∧ x.key = .int .i64 k ∧ (Instr.lookup mty (.map (some r)) (.int .i64 k) true).run P w = .ok (.tuple #[x.val, .bool true]) w) ∨
      ((∀ x ∈ es.toList, x.key ≠ .int .i64 k) ∧ (Instr.lookup mty (.map (some r)) (.int .i64 k) true).run P w = .ok (.tuple #[z, .bool false]) w) := by
  have hkey : ∀ j : Int, MapKept.IsKey (.int .i64) (.int .i64 j) := fun j => by simp [MapKept.IsKey]
  have hc : (Instr.checkKey es.isEmpty 10000 kt (.int .i64 k)).run P w = .ok () w := MapKept.run_checkKey (k := .int .i64 k) hk (hkey k) es.isEmpty 9999
  rcases MapKept.findNow_spec (hkey k) es.toList 0 (fun x hx => by obtain ⟨k', e⟩ := hint x hx; rw [e]; exact hkey k') with ⟨h1, h2⟩ | ⟨j, e, h1, h2, h3⟩
  · refine .inr ⟨h2, ?_⟩
    simp [Instr.lookup, run_underlying hm, MapKept.run_getObj_map hb, hc, MapKept.run_findKey hk h1, hz, Result.andThen]
  · refine .inl ⟨e, List.mem_of_getElem? h2, h3, ?_⟩
    simp [Instr.lookup, run_underlying hm, MapKept.run_getObj_map hb, hc, MapKept.run_findKey hk h1, Result.andThen]
/-- The map has all that is to be in it, and nothing else. -/
def MapAll (L : List (Nat × Int)) (V : Nat → Value → World → Prop) (listed : Nat → Bool) (r : Nat) (w : World) : Prop :=
  ∃ es c, w.heap[r]? = some (.map es c) ∧ (∀ x ∈ es.toList, ∃ p, p ∈ L ∧ listed p.1 = true ∧ x.key = .int .i64 p.2 ∧ V p.1 x.val w) ∧ ∀ p ∈ L, listed p.1 = true → ∃ x, x ∈ es.toList ∧ x.key = .int .i64 p.2
theorem MapAll.keep {L : List (Nat × Int)} {V : Nat → Value → World → Prop} {listed listed' : Nat → Bool} {r : Nat} {w w' : World} (h : MapAll L V listed r w) (hr : w'.heap[r]? = w.heap[r]?) (hV : ∀ i v, V i v w → V i v w') (hl : ∀ p ∈ L, listed' p.1 = listed p.1) : MapAll L V listed' r w' := by
  obtain ⟨es, c, h1, h2, h3⟩ := h
  refine ⟨es, c, hr.trans h1, fun x hx => ?_, fun p hp hlp => h3 p hp (by rw [← hl p hp]; exact hlp)⟩
  obtain ⟨p, hp, hq, hk, hv⟩ := h2 x hx
  exact ⟨p, hp, (hl p hp).trans hq, hk, hV _ _ hv⟩
/-- An entry that was not yet in it is laid. -/
theorem run_layAll {P : Program} {L : List (Nat × Int)} {V : Nat → Value → World → Prop} {listed : Nat → Bool} {r : Nat} {w : World} (mty kt et : TypeId) (i : Nat) (k : Int) (val : Value) (hm : P.underlying mty = some (.map kt et)) (hk : P.underlying kt = some (.int .i64))
    (h : MapAll L V listed r w) (hi : (i, k) ∈ L) (hinj : ∀ p ∈ L, p.2 = k → p.1 = i) (hdist : ∀ p ∈ L, p.1 = i → p.2 = k) (hn : listed i = false) (hV : ∀ i v w w', Hk w w' → V i v w → V i v w') (hval : V i val w) :
    ∃ w', (Instr.mapUpdate mty (.map (some r)) (.int .i64 k) val).run P w = .ok () w' ∧ MapAll L V (fun j => if j = i then true else listed j) r w' ∧ w'.heap.size = w.heap.size ∧ (∀ j, j ≠ r → w'.heap[j]? = w.heap[j]?) ∧ w'.os = w.os ∧ w'.tape = w.tape ∧ w'.output = w.output ∧ Hk w w' := by
  obtain ⟨es, c, h1, h2, h3⟩ := h
  have hkey : ∀ j : Int, MapKept.IsKey (.int .i64) (.int .i64 j) := fun j => by simp [MapKept.IsKey]
  have hnone : Instr.findNow (.int .i64) (.int .i64 k) es.toList 0 = some none := by
    rcases MapKept.findNow_spec (hkey k) es.toList 0 (fun x hx => by obtain ⟨p, _, _, e, _⟩ := h2 x hx; rw [e]; exact hkey p.2) with ⟨q, _⟩ | ⟨j, e, _, q2, q3⟩
    · exact q
    · exfalso
      obtain ⟨p, hp, hq, e', _⟩ := h2 e (List.mem_of_getElem? q2)
      rw [q3] at e'
      injection e' with _ e''
      have := hinj p hp e''.symm
      rw [this, hn] at hq
      cases hq
  obtain ⟨w', hr, hb, hs, ho, e1, e2, e3⟩ := run_lay_ex w mty kt et r c es k val hm hk h1 hnone
  have hH : Hk w w' := Hk.map h1 ho
  refine ⟨w', hr, ⟨_, _, hb, fun x hx => ?_, fun p hp hl => ?_⟩, hs, ho, e1, e2, e3, hH⟩
  · simp only [Array.toList_push, List.mem_append, List.mem_singleton] at hx
    rcases hx with hx | rfl
    · obtain ⟨p, hp, hq, e, hv⟩ := h2 x hx
      exact ⟨p, hp, by simp [hq], e, hV _ _ _ _ hH hv⟩
    · exact ⟨(i, k), hi, by simp, rfl, hV _ _ _ _ hH hval⟩
  · by_cases hpi : p.1 = i
    · have hp2 : p = (i, p.2) := by rw [← hpi]
      by_cases hpk : p.2 = k
      · exact ⟨_, by rw [Array.toList_push]; exact List.mem_append_right _ (List.mem_singleton.2 rfl), by rw [hpk]⟩
      · simp only [hpi, if_true] at hl
        by_cases hli : listed p.1 = true
        · rw [hpi, hn] at hli; cases hli
        · exact absurd (hdist p hp hpi) hpk
    · simp only [hpi, if_false] at hl
      obtain ⟨x, hx, e⟩ := h3 p hp hl
      exact ⟨x, by simp [hx], e⟩
end Go.Proofs.YtaojidcneocelaaGreatDoor
