/- Small laws for walks: rows of a call's own, whole structs, what stays. (Written by gengen.py out of other texts.) -/
import Derived.Test.YtaojidcneocelaaGreatDoorBase
import Derived.Test.YtaojidcneocelaaGreatDoorMapK
import Derived.Test.YtaojidcneocelaaGreatDoorRngT
import Derived.Laws.Rows
import Derived.Laws.Tables
import Derived.Deep.AppendLies
namespace Go.Proofs.YtaojidcneocelaaGreatDoor
open Go.RowKit Go.Lib

theorem own_below {w w' : World} {base e size n : Nat} {v : Value} {xs : List Value} (h : w.ownsRow base e size v n xs) (hb : Below w.heap.size w w') : w'.ownsRow base e size v n xs := by
  refine ⟨h.1, ?_⟩
  rcases h.2 with hn | ⟨g, cap, cur, rfl, hbg, hg, rest⟩
  · exact .inl hn
  · exact .inr ⟨g, cap, cur, rfl, hbg, by rw [hb.block g (Array.getElem?_eq_some_iff.1 hg).1]; exact hg, rest⟩
def sV (ls : List (List UInt8)) : List Value := ls.map fun l => .string ⟨l.toArray⟩
theorem sV_length (ls : List (List UInt8)) : (sV ls).length = ls.length := by simp [sV]
theorem sV_append (a b : List (List UInt8)) : sV (a ++ b) = sV a ++ sV b := by simp [sV]
theorem own_ne {w : World} {base e size n M : Nat} {v : Value} {xs : List Value} {cs : Array Value} {t : TypeId} {f : Nat × Nat} (h : w.ownsRow base e size v n xs) (hM : w.heap[M]? = some (.cells cs t f)) (hne : e ≠ t) : v.ownBlock ≠ some M := by
  intro hv
  rcases h.2 with ⟨rfl, _⟩ | ⟨g, cap, cur, rfl, _, hg, _⟩
  · cases hv
  · simp only [Value.ownBlock, Option.some.injEq] at hv
    subst hv
    rw [hg] at hM
    injection hM with hM
    injection hM with _ ht
    exact hne ht
theorem grown_set (w : World) (b i : Nat) (v : Value) : w.grownBy (w.setCell ⟨b, i, none⟩ v) (some b) :=
  ⟨rfl, rfl, rfl, Nat.le_of_eq (by simp), fun k _ hne => Below.heap_setCell w ⟨b, i, none⟩ v k (fun e => hne (congrArg some e))⟩
theorem own_set {w : World} {base e size n g cap i : Nat} {xs : List Value} {x : Value} (h : w.ownsRow base e size (.slice (some ⟨g, 0, none⟩) n cap) n xs) (_hi : i < xs.length) :
    (w.setCell ⟨g, i, none⟩ x).ownsRow base e size (.slice (some ⟨g, 0, none⟩) n cap) n (xs.set i x) := by
  refine ⟨by rw [List.length_set]; exact h.1, ?_⟩
  rcases h.2 with ⟨h1, _⟩ | ⟨g', cap', cur, hv, hb, hg, hc, hm, hs, ht⟩
  · cases h1
  · cases hv
    refine .inr ⟨g, cap, cur.setIfInBounds i x, rfl, hb, ?_, hc, hm, by simpa using hs, ?_⟩
    · simp [World.setCell, Array.getElem?_modify, hg]
    · rw [Array.toList_setIfInBounds, List.take_set, ht]
theorem own_cell {w : World} {base e size n g cap : Nat} {xs : List Value} (h : w.ownsRow base e size (.slice (some ⟨g, 0, none⟩) n cap) n xs) {i : Nat} {x : Value} (hi : xs[i]? = some x) : w.cell? ⟨g, i, none⟩ = some x ∧ w.frozen? ⟨g, i, none⟩ = false := by
  have hadd : (⟨g, 0, none⟩ : Addr).add i = ⟨g, i, none⟩ := by unfold Addr.add; split <;> simp_all
  have k1 := h.cells (g := g) rfl _ _ hi
  rw [hadd] at k1
  refine ⟨k1, ?_⟩
  rcases h.2 with ⟨h1, _⟩ | ⟨g', cap', cur, hv, hb, hg, _⟩
  · cases h1
  · cases hv
    exact Lib.frozen_of_heap hg i
theorem set_kept {w : World} {b i : Nat} {x : Value} {cs : Array Value} {t : TypeId} {base e size n : Nat} {v : Value} {xs : List Value} (h : w.ownsRow base e size v n xs) (hb : w.heap[b]? = some (.cells cs t (0, 0))) (ht : e ≠ t) : (w.setCell ⟨b, i, none⟩ x).ownsRow base e size v n xs :=
  h.kept (grown_set w b i x) (.inr (own_ne h hb ht))
theorem setCell_at {w : World} {C i : Nat} {cs : Array Value} {t : TypeId} {u : Value} (h : w.heap[C]? = some (.cells cs t (0, 0))) : (w.setCell ⟨C, i, none⟩ u).heap[C]? = some (.cells (cs.setIfInBounds i u) t (0, 0)) := by
  simp [World.setCell, Array.getElem?_modify, h]
theorem own_shape {w : World} {base e size n : Nat} {v : Value} {xs : List Value} (h : w.ownsRow base e size v n xs) : ∃ a c, v = .slice a n c := by
  rcases h.2 with ⟨rfl, h0⟩ | ⟨g, cap, cur, rfl, _⟩
  · exact ⟨none, 0, by rw [h0]⟩
  · exact ⟨_, _, rfl⟩
theorem own_mono {w : World} {base base' e size n : Nat} {v : Value} {xs : List Value} (h : w.ownsRow base e size v n xs) (hb : base' ≤ base) : w.ownsRow base' e size v n xs := by
  refine ⟨h.1, ?_⟩
  rcases h.2 with h1 | ⟨g, cap, cur, h1, h2, h3⟩
  · exact .inl h1
  · exact .inr ⟨g, cap, cur, h1, Nat.le_trans hb h2, h3⟩
theorem bel_drwN {B : Nat} {a w : World} (h : Below B a w) (n : Nat) : Below B a (w.drewN n) := ⟨h.os, h.tape, h.output, h.size, h.block⟩
/-- append of nothing: a nil source, whatever its capacity says. -/
theorem wpList_append_voidB {P : Program} {w : World} {ops : Array Oper} {rest : List Oper} {o : Oper} {a : Act} {Q : Exit → Act → World → Prop} (hgd : o.guard = none) (s x : Operand) (t : TypeId)
    (ho : o.op = .call { callee := .builtin .append, args := #[s, x], argTypes := #[t, t] })
    (base : Nat) (e : TypeId) (i : TypeInfo) (size : Nat) (ht : P.underlying t = some (.slice e)) (hi : P.info? e = some i)
    (v : Value) (n : Nat) (xs : List Value) (hs : a.eval s = v) (hown : w.ownsRow base e size v n xs) (c : Nat) (hx : a.eval x = .slice none 0 c)
    (h : wpList P ops Q rest (a.put o.dst v) w) : wpList P ops Q (o :: rest) a w := by
  refine wpList_plain hgd fun K hK => ?_
  have hrun : (Builtin.append_ #[t, t] o.type #[v, .slice none 0 c]).run P w = .ok v w := by
    rcases hown.2 with ⟨rfl, rfl⟩ | ⟨g, cap, cur, rfl, _, _, hnc, _⟩
    · simp [Builtin.append_, run_underlying ht, sizeOf, typeInfo, hi, Builtin.lenOf, Builtin.firstCells]
    · simp [Builtin.append_, run_underlying ht, sizeOf, typeInfo, hi, Builtin.lenOf, Builtin.firstCells, hnc, storeCells]
  unfold Oper.wp
  simp [execOp, ho, resolve, invoke, builtin, hs, hx, hrun, Result.andThen]
  exact hK _ _ h
theorem sV_one (ls : List (List UInt8)) : ∀ u ∈ sV ls, u.oneCell' = true := by
  intro u hu
  simp only [sV, List.mem_map] at hu
  obtain ⟨x, _, rfl⟩ := hu
  rfl
theorem wpList_loadRow {P : Program} {w : World} {ops : Array Oper} {rest : List Oper} {o : Oper} {a : Act} {Q : Exit → Act → World → Prop} (hgd : o.guard = none) (t : TypeId) (x : Operand) (ho : o.op = .load t x)
    (g : Nat) (ty : TypeId) (cs : Array Value) (fr : Nat × Nat) (hx : a.eval x = .pointer (some ⟨g, 0, none⟩)) (hg : w.heap[g]? = some (.cells cs ty fr)) (d : TypeDesc) (hu : P.underlying t = some d)
    (hd : (match d with | .struct _ | .array _ _ => true | _ => false) = true) (hi : (P.info? t).map (·.size) = some cs.size)
    (h : wpList P ops Q rest (a.put o.dst (.agg cs)) w) : wpList P ops Q (o :: rest) a w := by
  refine wpList_plain hgd fun K hK => ?_
  have hr := run_loadVar_row (P := P) w g ty t cs fr d hg hu hd hi
  unfold Oper.wp execOp
  simp only [ho, hx, Instr.loadAt, Instr.sureAddr, Sem.run_bind, Sem.run_pure, Result.andThen_ok, hr]
  exact hK _ _ h
theorem wpList_storeRow {P : Program} {w : World} {ops : Array Oper} {rest : List Oper} {o : Oper} {a : Act} {Q : Exit → Act → World → Prop} (hgd : o.guard = none) (t : TypeId) (x y : Operand) (ho : o.op = .store t x y)
    (g : Nat) (ty : TypeId) (old cs : Array Value) (hx : a.eval x = .pointer (some ⟨g, 0, none⟩)) (hy : a.eval y = .agg cs) (hg : w.heap[g]? = some (.cells old ty (0, 0))) (hi : (P.info? t).map (·.size) = some cs.size) (hs : old.size = cs.size) (h1 : cs.all (·.oneCell') = true)
    (h : wpList P ops Q rest (a.put o.dst (.tuple #[])) (w.setRow g cs)) : wpList P ops Q (o :: rest) a w := by
  refine wpList_plain hgd fun K hK => ?_
  have hr := run_storeVar_row (P := P) w g ty t old cs hg hi hs h1
  unfold Oper.wp execOp
  simp only [ho, hx, hy, Instr.storeAt, Instr.sureAddr, Sem.run_bind, Sem.run_pure, Result.andThen_ok, hr]
  exact hK _ _ h
theorem grown_row (w : World) (b : Nat) (cs : Array Value) : w.grownBy (w.setRow b cs) (some b) :=
  ⟨rfl, rfl, rfl, by simp [World.setRow], fun k _ hne => setRow_other w b k cs (fun e => hne (congrArg some e))⟩
theorem row_kept {w : World} {b : Nat} {x : Array Value} {cs : Array Value} {t : TypeId} {base e size n : Nat} {v : Value} {xs : List Value} (h : w.ownsRow base e size v n xs) (hb : w.heap[b]? = some (.cells cs t (0, 0))) (ht : e ≠ t) : (w.setRow b x).ownsRow base e size v n xs :=
  h.kept (grown_row w b x) (.inr (own_ne h hb ht))
theorem below_row {B g : Nat} {a w : World} (h : Below B a w) (hg : B ≤ g) (cs : Array Value) : Below B a (w.setRow g cs) :=
  h.trans ⟨rfl, rfl, rfl, by simp [World.setRow], fun k hk => setRow_other w g k cs (by omega)⟩
theorem exec_loadRow {P : Program} {w : World} {o : Oper} {a : Act} (t : TypeId) (x : Operand) (ho : o.op = .load t x)
    (g : Nat) (ty : TypeId) (cs : Array Value) (fr : Nat × Nat) (hx : a.eval x = .pointer (some ⟨g, 0, none⟩)) (hg : w.heap[g]? = some (.cells cs ty fr)) (d : TypeDesc) (hu : P.underlying t = some d)
    (hd : (match d with | .struct _ | .array _ _ => true | _ => false) = true) (hi : (P.info? t).map (·.size) = some cs.size) : (execOp a.eval o).run P w = .ok (.value (.agg cs)) w := by
  have hr := run_loadVar_row (P := P) w g ty t cs fr d hg hu hd hi
  unfold execOp
  simp only [ho, hx, Instr.loadAt, Instr.sureAddr, Sem.run_bind, Sem.run_pure, Result.andThen_ok, hr]
theorem wpList_loadRowG {P : Program} {w : World} {ops : Array Oper} {rest : List Oper} {o : Oper} {a : Act} {Q : Exit → Act → World → Prop} (hwd : Region.wanted o (yielded ops a.tmps) = true) (t : TypeId) (x : Operand) (ho : o.op = .load t x)
    (g : Nat) (ty : TypeId) (cs : Array Value) (fr : Nat × Nat) (hx : a.eval x = .pointer (some ⟨g, 0, none⟩)) (hg : w.heap[g]? = some (.cells cs ty fr)) (d : TypeDesc) (hu : P.underlying t = some d)
    (hd : (match d with | .struct _ | .array _ _ => true | _ => false) = true) (hi : (P.info? t).map (·.size) = some cs.size)
    (h : wpList P ops Q rest (a.put o.dst (.agg cs)) w) : wpList P ops Q (o :: rest) a w := by
  refine wpList_step fun K hK => ?_
  rw [if_pos hwd]
  have hr := run_loadVar_row (P := P) w g ty t cs fr d hg hu hd hi
  unfold Oper.wp execOp
  simp only [ho, hx, Instr.loadAt, Instr.sureAddr, Sem.run_bind, Sem.run_pure, Result.andThen_ok, hr]
  exact hK _ _ h
/-- A new block of one struct, written whole. -/
theorem new_row {w : World} {z cs : Array Value} {t : TypeId} : Below w.heap.size w ((w.alloc (.cells z t)).setRow w.heap.size cs) ∧ ((w.alloc (.cells z t)).setRow w.heap.size cs).heap[w.heap.size]? = some (.cells cs t (0, 0)) :=
  ⟨below_row ((Below.refl _ _).alloc (Nat.le_refl _) _) (Nat.le_refl _) cs, setRow_heap _ _ _ _ _ _ (alloc_at _ _ _ rfl)⟩
/-- All rows of their own stay, but those of one kind. -/
def Kp (t : TypeId) (w w' : World) : Prop := ∀ (B : Nat) (e : TypeId) (size n : Nat) (v : Value) (xs : List Value), e ≠ t → w.ownsRow B e size v n xs → w'.ownsRow B e size v n xs
theorem Kp.below {t : TypeId} {w w' : World} (h : Below w.heap.size w w') : Kp t w w' := fun _ _ _ _ _ _ _ ho => own_below ho h
theorem Kp.set {t : TypeId} {w : World} {b i : Nat} {x : Value} {cs : Array Value} (hb : w.heap[b]? = some (.cells cs t (0, 0))) : Kp t w (w.setCell ⟨b, i, none⟩ x) := fun _ _ _ _ _ _ ht ho => set_kept ho hb ht
theorem Kp.row {t : TypeId} {w : World} {b : Nat} {x : Array Value} {cs : Array Value} (hb : w.heap[b]? = some (.cells cs t (0, 0))) : Kp t w (w.setRow b x) := fun _ _ _ _ _ _ ht ho => row_kept ho hb ht
theorem Kp.grown {t : TypeId} {w w' : World} {B size n : Nat} {v : Value} {xs : List Value} (ho : w.ownsRow B t size v n xs) (hg : w.grownBy w' v.ownBlock) : Kp t w w' := by
  intro B' e s' n' v' xs' ht ho'
  refine ho'.kept hg ?_
  rcases id ho.2 with ⟨rfl, _⟩ | ⟨g, cap, cur, rfl, hb, hgb, _⟩
  · cases h : v'.ownBlock with
    | none => exact .inl rfl
    | some g => exact .inr (fun e => by cases e)
  · exact .inr (own_ne ho' hgb ht)
theorem Kp.trans {t : TypeId} {a b c : World} (h : Kp t a b) (k : Kp t b c) : Kp t a c := fun _ _ _ _ _ _ ht ho => k _ _ _ _ _ _ ht (h _ _ _ _ _ _ ht ho)
theorem anyH_take {P : Program} {md : Region.Mode} {ops : Array Oper} {Q : Exit → Act → World → Prop} {S : World → Prop} (i : Nat) (v : Value) {oi : Oper} {fuel : Nat} {listed : Array Bool} {a : Act} {w : World} (hi : ops[i]? = some oi)
    (hs : Region.noSelect ops = true) (hf : Region.free md ops listed i = true) (hr : (Region.ready md ops listed).contains i = true) (hQ : ∀ c a w, Q (.panic c) (a.put oi.dst v) w → Q (.panic c) a w)
    (hw : Region.wanted oi (yielded ops a.tmps) = true) (hy : ∀ w, S w → (execOp a.eval oi).run P w = .ok (.value v) w) (hS : S w)
    (h : ∀ K' : Act → World → Prop, (∀ a w, wpAnyH P md ops Q S fuel (listed.setIfInBounds i true) a w → K' a w) → K' (a.put oi.dst v) w) : wpAnyH P md ops Q S (fuel + 1) listed a w :=
  wpAnyH_take hi hs hf hr hQ (Or.inl ⟨hw, hy⟩) hS (h _ (fun _ _ k => k))
theorem anyH_one {P : Program} {md : Region.Mode} {ops : Array Oper} {Q : Exit → Act → World → Prop} {S : World → Prop} (i : Nat) {o : Oper} {fuel : Nat} {listed : Array Bool} {a : Act} {w : World}
    (hr : Region.ready md ops listed = [i]) (ho : ops[i]? = some o) (hw : Region.wanted o (yielded ops a.tmps) = true)
    (h : ∀ K' : Act → World → Prop, (∀ a w, S w → wpAnyH P md ops Q S fuel (listed.setIfInBounds i true) a w → K' a w) → Oper.wp P o a w K' Q) : wpAnyH P md ops Q S (fuel + 1) listed a w :=
  wpAnyH_all hr (by simp) (fun j hj => by
    simp only [List.mem_singleton] at hj
    subst hj
    unfold wpOp
    rw [ho]
    simp only [hw, if_true]
    exact .inl (h _ (fun _ _ s k => ⟨s, k⟩)))
theorem anyH_two {P : Program} {md : Region.Mode} {ops : Array Oper} {Q : Exit → Act → World → Prop} {S : World → Prop} (i j : Nat) {o o' : Oper} {fuel : Nat} {listed : Array Bool} {a : Act} {w : World}
    (hr : Region.ready md ops listed = [i, j]) (ho : ops[i]? = some o) (hw : Region.wanted o (yielded ops a.tmps) = true) (ho' : ops[j]? = some o') (hw' : Region.wanted o' (yielded ops a.tmps) = true)
    (h : ∀ K' : Act → World → Prop, (∀ a w, S w → wpAnyH P md ops Q S fuel (listed.setIfInBounds i true) a w → K' a w) → Oper.wp P o a w K' Q)
    (h' : ∀ K' : Act → World → Prop, (∀ a w, S w → wpAnyH P md ops Q S fuel (listed.setIfInBounds j true) a w → K' a w) → Oper.wp P o' a w K' Q) : wpAnyH P md ops Q S (fuel + 1) listed a w :=
  wpAnyH_all hr (by simp) (fun k hk => by
    simp only [List.mem_cons, List.not_mem_nil, or_false] at hk
    rcases hk with rfl | rfl
    · unfold wpOp
      rw [ho]
      simp only [hw, if_true]
      exact .inl (h _ (fun _ _ s k => ⟨s, k⟩))
    · unfold wpOp
      rw [ho']
      simp only [hw', if_true]
      exact .inl (h' _ (fun _ _ s k => ⟨s, k⟩)))
end Go.Proofs.YtaojidcneocelaaGreatDoor
