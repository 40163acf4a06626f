/- TailR. -/
import Derived.Lib.FrozenHead
import Derived.Laws.IdiomStrings
import Derived.Test.YtegigcneimjimaaGreatDoorU1
namespace Go.Proofs.YtegigcneimjimaaGreatDoor
open Go.RowKit Go.Lib
set_option maxRecDepth 100000
set_option maxHeartbeats 16000000
def OwnT (w : World) (base : Nat) (e : TypeId) (v : Value) (l : List UInt8) : Prop :=
  ∃ g cap cur fz, v = .slice (some ⟨g, 0, none⟩) l.length cap ∧ base ≤ g ∧ w.heap[g]? = some (.cells cur e fz) ∧ (fz.2 = 0 ∨ cap ≤ fz.1) ∧ l.length ≤ cap ∧ cap ≤ maxLen ∧ cur.size = cap ∧ cur.toList.take l.length = bV l
theorem OwnT.lt {w : World} {base : Nat} {e : TypeId} {v : Value} {l : List UInt8} (h : OwnT w base e v l) : ∀ k, v.ownBlock = some k → base ≤ k ∧ k < w.heap.size := by
  intro k hk
  obtain ⟨g, cap, cur, fz, rfl, hb, hg, _⟩ := h
  simp only [Value.ownBlock, Option.some.injEq] at hk
  subst hk
  exact ⟨hb, (Array.getElem?_eq_some_iff.1 hg).1⟩
theorem OwnT.kept {w w' : World} {base : Nat} {e : TypeId} {v : Value} {l : List UInt8} (h : OwnT w base e v l) (hk : ∀ k, base ≤ k → k < w.heap.size → w'.heap[k]? = w.heap[k]?) : OwnT w' base e v l := by
  obtain ⟨g, cap, cur, fz, hv, hb, hg, hr⟩ := h
  exact ⟨g, cap, cur, fz, hv, hb, (hk g hb (Array.getElem?_eq_some_iff.1 hg).1).trans hg, hr⟩
theorem OwnT.below {w w' : World} {base : Nat} {e : TypeId} {v : Value} {l : List UInt8} (h : OwnT w base e v l) (hb : Below w.heap.size w w') : OwnT w' base e v l := h.kept (fun k _ hk => hb.block k hk)
theorem OwnT.cells {w : World} {base : Nat} {e : TypeId} {v : Value} {l : List UInt8} (h : OwnT w base e v l) {g : Nat} (hg : v.ownBlock = some g) : ∀ j u, (bV l)[j]? = some u → w.cell? ((⟨g, 0, none⟩ : Addr).add j) = some u := by
  intro j u hu
  obtain ⟨g', cap, cur, fz, rfl, _, hgg, _, _, _, _, htake⟩ := h
  simp only [Value.ownBlock, Option.some.injEq] at hg
  subst hg
  rw [Addr.add_lit, Nat.zero_add, cell_of_row w g' j cur e fz hgg]
  rw [← htake, List.getElem?_take] at hu
  split at hu
  · simpa using hu
  · cases hu
theorem run_store_far (P : Program) (g o : Nat) (t : TypeId) (fz : Nat × Nat) : ∀ (vs : List Value) (i : Nat) (cur : Array Value) (w : World), w.heap[g]? = some (.cells cur t fz) → cur.size ≤ fz.1 → o + i + vs.length ≤ cur.size → (∀ v ∈ vs, v.oneCell' = true) →
    (storeCells ⟨g, o, none⟩ vs i).run P w = .ok () (w.setRow g (cur.toList.take (o + i) ++ vs ++ cur.toList.drop (o + i + vs.length)).toArray)
  | [], i, cur, w, hg, _, _, _ => by
    simp only [storeCells, List.append_nil, List.length_nil, Nat.add_zero, List.take_append_drop, Array.toArray_toList]
    rw [setRow_self w g cur t fz hg]
    rfl
  | v :: rest, i, cur, w, hg, hfz, hl, h1 => by
    have hi : o + i < cur.size := by simp only [List.length_cons] at hl; omega
    have hcell : w.cell? ⟨g, o + i, none⟩ = some cur[o + i] := by simp [World.cell?, hg, hi]
    have hfro : w.frozen? ⟨g, o + i, none⟩ = false := by
      simp only [World.frozen?, hg, Bool.and_eq_false_iff, decide_eq_false_iff_not]
      left
      omega
    have hst : (store ((⟨g, o, none⟩ : Addr).add i) v).run P w = .ok () (w.setRow g (cur.setIfInBounds (o + i) v)) := by
      rw [Addr.add_lit, run_store P w _ v _ (h1 v (by simp)), hcell]
      simp [hfro, setCell_eq_setRow w g (o + i) cur t fz v hg]
    have ih := run_store_far P g o t fz rest (i + 1) (cur.setIfInBounds (o + i) v) (w.setRow g (cur.setIfInBounds (o + i) v)) (setRow_heap w g cur _ t _ hg) (by simp; omega) (by simp only [List.length_cons] at hl; simp; omega) (fun x hx => h1 x (by simp [hx]))
    simp only [storeCells, Sem.run_bind, hst, Result.andThen_ok, ih, setRow_setRow]
    congr 3
    have e := list_seg_step cur.toList (o + i) v rest (by simp only [List.length_cons] at hl; simp; omega)
    simpa [Array.toList_setIfInBounds, Nat.add_assoc] using e
theorem run_store_row (P : Program) (g o : Nat) (t : TypeId) (fz : Nat × Nat) (vs : List Value) (cur : Array Value) (w : World) (hg : w.heap[g]? = some (.cells cur t fz)) (hfz : fz.2 = 0 ∨ cur.size ≤ fz.1) (hl : o + vs.length ≤ cur.size) (h1 : ∀ v ∈ vs, v.oneCell' = true) :
    (storeCells ⟨g, o, none⟩ vs 0).run P w = .ok () (w.setRow g (cur.toList.take o ++ vs ++ cur.toList.drop (o + vs.length)).toArray) := by
  rcases hfz with h | h
  · have := run_storeCells_atF P g o t fz vs 0 cur w hg (by omega) (by omega) h1
    simpa only [Nat.add_zero] using this
  · have := run_store_far P g o t fz vs 0 cur w hg h (by omega) h1
    simpa only [Nat.add_zero] using this
theorem strCells_mk (l : List UInt8) : strCells ⟨l.toArray⟩ = bV l := by simp [strCells, bV]
theorem run_append_textT {P : Program} (w : World) (base : Nat) (t u ty e : TypeId) (i : TypeInfo) (ht : P.underlying t = some (.slice e)) (hu : P.underlying u = some .string) (hi : P.info? e = some i) (hz : i.zero = some (.int .u8 0))
    (hsize : i.size = 1) (hby : i.bytes = 1) (v : Value) (l s : List UInt8) (hown : OwnT w base e v l) (hl : l.length + s.length ≤ 140737488355328) (hbase : base ≤ w.heap.size) :
    ∃ v' w', (Builtin.append_ #[t, u] ty #[v, .string ⟨s.toArray⟩]).run P w = .ok v' w' ∧ OwnT w' base e v' (l ++ s) ∧ w.grownBy w' v.ownBlock := by
  obtain ⟨g, cap, cur, fz, rfl, hbg, hg, hfz, hnc, hcm, hcs, htake⟩ := hown
  have hss : (⟨s.toArray⟩ : ByteArray).size = s.length := Lib.size_mk s
  have hmax : l.length + s.length ≤ maxLen := by simp only [maxLen]; omega
  by_cases hroom : l.length + s.length ≤ cap
  · have hf := run_firstCells_string (P := P) w 1 ⟨s.toArray⟩
    rw [hss] at hf
    have hst := run_store_row P g l.length e fz (strCells ⟨s.toArray⟩) cur w hg (by rw [hcs]; exact hfz) (by rw [strCells_length, hss, hcs]; exact hroom) (strCells_oneCell ⟨s.toArray⟩)
    rw [strCells_length, hss] at hst
    have hr : (Builtin.append_ #[t, u] ty #[.slice (some ⟨g, 0, none⟩) l.length cap, .string ⟨s.toArray⟩]).run P w =
        .ok (.slice (some ⟨g, 0, none⟩) (l ++ s).length cap) (w.setRow g (cur.toList.take l.length ++ strCells ⟨s.toArray⟩ ++ cur.toList.drop (l.length + s.length)).toArray) := by
      simp [Builtin.append_, run_underlying ht, run_underlying hu, sizeOf, typeInfo, hi, hsize, Builtin.lenOf, hss, hroom, hf, Addr.add_lit, hst]
    refine ⟨_, _, hr, ⟨g, cap, _, fz, rfl, hbg, setRow_heap w g cur _ e _ hg, hfz, by rw [List.length_append]; exact hroom, hcm, ?_, ?_⟩, ⟨rfl, rfl, rfl, by simp, fun k _ hk => setRow_other w g k _ (fun e => hk (by simp [Value.ownBlock, e]))⟩⟩
    · simp only [List.size_toArray, List.length_append, List.length_take, List.length_drop, Array.length_toList, strCells_length, hss]
      omega
    · rw [htake, strCells_mk, bV_append]
      have : (l ++ s).length = (bV l ++ bV s).length := by simp [bV_length]
      rw [this]
      exact List.take_left
  · have hcell : ∀ j u, (bV l)[j]? = some u → w.cell? ((⟨g, 0, none⟩ : Addr).add j) = some u := OwnT.cells ⟨g, cap, cur, fz, rfl, hbg, hg, hfz, hnc, hcm, hcs, htake⟩ rfl
    have hr := run_append_grow_string (P := P) w t u ty e i (.int .u8 0) ht hu hi hz ⟨g, 0, none⟩ l.length cap (bV l) (by rw [hsize, bV_length, Nat.mul_one]) hcell ⟨s.toArray⟩ (by rw [hss]; omega) (by rw [hss]; omega) (by rw [hby]; exact growslice_fits (by rw [hss]; omega) (by rw [hss]; omega))
    have hge := grownCap_ge w (l.length + s.length) cap e
    have hcm2 : grownCap w (l.length + s.length) cap e ≤ maxLen := grownCap_le_maxLen w (l.length + s.length) cap e hmax
    rw [hss] at hr
    have hll : (l ++ s).length = l.length + s.length := List.length_append
    refine ⟨_, _, hr, ⟨w.heap.size, _, _, (0, 0), by rw [hll], hbase, heap_alloc_new w.drew _, .inl rfl, by rw [hll]; exact hge, hcm2, ?_, ?_⟩, ⟨rfl, rfl, rfl, by simp, fun k hk _ => Lib.alloc_old w.drew _ k hk⟩⟩
    · have hz1 : (Value.int IntKind.u8 0).cells.size = 1 := rfl
      simp only [Array.size_append, List.size_toArray, size_zeroCells, hz1, bV_length, strCells_length, hss]
      omega
    · simp only [Array.toList_append, List.append_assoc]
      rw [← List.append_assoc, strCells_mk, bV_append]
      have : (l ++ s).length = (bV l ++ bV s).length := by simp [bV_length]
      rw [this]
      exact List.take_left
theorem run_append_bytesT {P : Program} (w : World) (base : Nat) (t ty e : TypeId) (i : TypeInfo) (ht : P.underlying t = some (.slice e)) (hi : P.info? e = some i) (hz : i.zero = some (.int .u8 0))
    (hsize : i.size = 1) (hby : i.bytes = 1) (v : Value) (l s : List UInt8) (hown : OwnT w base e v l) (ad : Addr) (c : Nat) (hnews : ∀ j u, (bV s)[j]? = some u → w.cell? (ad.add j) = some u)
    (hl : l.length + s.length ≤ 140737488355328) (hbase : base ≤ w.heap.size) :
    ∃ v' w', (Builtin.append_ #[t, t] ty #[v, .slice (some ad) s.length c]).run P w = .ok v' w' ∧ OwnT w' base e v' (l ++ s) ∧ w.grownBy w' v.ownBlock := by
  obtain ⟨g, cap, cur, fz, rfl, hbg, hg, hfz, hnc, hcm, hcs, htake⟩ := hown
  have hmax : l.length + s.length ≤ maxLen := by simp only [maxLen]; omega
  have hone : ∀ u ∈ bV s, u.oneCell' = true := by
    intro u hu
    simp only [bV, List.mem_map] at hu
    obtain ⟨b, _, rfl⟩ := hu
    rfl
  by_cases hroom : l.length + s.length ≤ cap
  · have hf := run_firstCells_some (P := P) w i.size s.length ad s.length c (bV s) (by rw [hsize, bV_length, Nat.mul_one]) hnews
    have hst := run_store_row P g l.length e fz (bV s) cur w hg (by rw [hcs]; exact hfz) (by rw [bV_length, hcs]; exact hroom) hone
    rw [bV_length] at hst
    have hr : (Builtin.append_ #[t, t] ty #[.slice (some ⟨g, 0, none⟩) l.length cap, .slice (some ad) s.length c]).run P w =
        .ok (.slice (some ⟨g, 0, none⟩) (l ++ s).length cap) (w.setRow g (cur.toList.take l.length ++ bV s ++ cur.toList.drop (l.length + s.length)).toArray) := by
      rw [hsize] at hf
      simp [Builtin.append_, run_underlying ht, sizeOf, typeInfo, hi, hsize, Builtin.lenOf, hroom, hf, Addr.add_lit, hst]
    refine ⟨_, _, hr, ⟨g, cap, _, fz, rfl, hbg, setRow_heap w g cur _ e _ hg, hfz, by rw [List.length_append]; exact hroom, hcm, ?_, ?_⟩, ⟨rfl, rfl, rfl, by simp, fun k _ hk => setRow_other w g k _ (fun e => hk (by simp [Value.ownBlock, e]))⟩⟩
    · simp only [List.size_toArray, List.length_append, List.length_take, List.length_drop, Array.length_toList, bV_length]
      omega
    · rw [htake, bV_append]
      have : (l ++ s).length = (bV l ++ bV s).length := by simp [bV_length]
      rw [this]
      exact List.take_left
  · have hcell : ∀ j u, (bV l)[j]? = some u → w.cell? ((⟨g, 0, none⟩ : Addr).add j) = some u := OwnT.cells ⟨g, cap, cur, fz, rfl, hbg, hg, hfz, hnc, hcm, hcs, htake⟩ rfl
    have hr := run_append_grow (P := P) w t ty e i (.int .u8 0) ht hi hz ⟨g, 0, none⟩ l.length cap (bV l) (by rw [hsize, bV_length, Nat.mul_one]) hcell ad s.length c (bV s) (by rw [hsize, bV_length, Nat.mul_one]) hnews (by omega) (by omega) (by rw [hby]; exact growslice_fits (by omega) (by omega))
    have hge := grownCap_ge w (l.length + s.length) cap e
    have hcm2 : grownCap w (l.length + s.length) cap e ≤ maxLen := grownCap_le_maxLen w (l.length + s.length) cap e hmax
    have hll : (l ++ s).length = l.length + s.length := List.length_append
    refine ⟨_, _, hr, ⟨w.heap.size, _, _, (0, 0), by rw [hll], hbase, heap_alloc_new w.drew _, .inl rfl, by rw [hll]; exact hge, hcm2, ?_, ?_⟩, ⟨rfl, rfl, rfl, by simp, fun k hk _ => Lib.alloc_old w.drew _ k hk⟩⟩
    · have hz1 : (Value.int IntKind.u8 0).cells.size = 1 := rfl
      simp only [Array.size_append, List.size_toArray, size_zeroCells, hz1, bV_length]
      omega
    · simp only [Array.toList_append, List.append_assoc]
      rw [← List.append_assoc, bV_append]
      have : (l ++ s).length = (bV l ++ bV s).length := by simp [bV_length]
      rw [this]
      exact List.take_left
theorem wpList_append_bytesT {P : Program} {w : World} {ops : Array Oper} {rest : List Oper} {o : Oper} {a : Act} {Q : Exit → Act → World → Prop} (hgd : o.guard = none) (sl x : Operand) (t : TypeId)
    (ho : o.op = .call { callee := .builtin .append, args := #[sl, x], argTypes := #[t, t] })
    (base : Nat) (e : TypeId) (i : TypeInfo) (ht : P.underlying t = some (.slice e)) (hi : P.info? e = some i) (hz : i.zero = some (.int .u8 0))
    (hsize : i.size = 1) (hby : i.bytes = 1) (v : Value) (l s : List UInt8) (hs : a.eval sl = v) (hown : OwnT w base e v l) (ad : Addr) (c : Nat) (hx : a.eval x = .slice (some ad) s.length c)
    (hnews : ∀ j u, (bV s)[j]? = some u → w.cell? (ad.add j) = some u) (hl : l.length + s.length ≤ 140737488355328) (hbase : base ≤ w.heap.size)
    (h : ∀ v' w', OwnT w' base e v' (l ++ s) → w.grownBy w' v.ownBlock → wpList P ops Q rest (a.put o.dst v') w') : wpList P ops Q (o :: rest) a w := by
  refine wpList_plain hgd fun K hK => ?_
  obtain ⟨v', w', hr, h2, h3⟩ := run_append_bytesT (P := P) w base t o.type e i ht hi hz hsize hby v l s hown ad c hnews hl hbase
  unfold Oper.wp execOp
  simp only [ho, resolve, invoke, builtin, Sem.run_bind, Sem.run_pure, Result.andThen_ok, List.map_toArray, List.map_cons, List.map_nil, hs, hx, hr]
  exact hK _ _ (h v' w' h2 h3)
theorem wpList_append_textT {P : Program} {w : World} {ops : Array Oper} {rest : List Oper} {o : Oper} {a : Act} {Q : Exit → Act → World → Prop} (hgd : o.guard = none) (sl x : Operand) (t u : TypeId)
    (ho : o.op = .call { callee := .builtin .append, args := #[sl, x], argTypes := #[t, u] })
    (base : Nat) (e : TypeId) (i : TypeInfo) (ht : P.underlying t = some (.slice e)) (hu : P.underlying u = some .string) (hi : P.info? e = some i) (hz : i.zero = some (.int .u8 0))
    (hsize : i.size = 1) (hby : i.bytes = 1) (v : Value) (l s : List UInt8) (hs : a.eval sl = v) (hown : OwnT w base e v l) (hx : a.eval x = .string ⟨s.toArray⟩) (hl : l.length + s.length ≤ 140737488355328) (hbase : base ≤ w.heap.size)
    (h : ∀ v' w', OwnT w' base e v' (l ++ s) → w.grownBy w' v.ownBlock → wpList P ops Q rest (a.put o.dst v') w') : wpList P ops Q (o :: rest) a w := by
  refine wpList_plain hgd fun K hK => ?_
  obtain ⟨v', w', hr, h2, h3⟩ := run_append_textT (P := P) w base t u o.type e i ht hu hi hz hsize hby v l s hown hl hbase
  unfold Oper.wp execOp
  simp only [ho, resolve, invoke, builtin, Sem.run_bind, Sem.run_pure, Result.andThen_ok, List.map_toArray, List.map_cons, List.map_nil, hs, hx, hr]
  exact hK _ _ (h v' w' h2 h3)
theorem wp_append_textT {P : Program} {w : World} {o : Oper} {a : Act} {K : Act → World → Prop} {Q : Exit → Act → World → Prop} (sl x : Operand) (t u : TypeId)
    (ho : o.op = .call { callee := .builtin .append, args := #[sl, x], argTypes := #[t, u] })
    (base : Nat) (e : TypeId) (i : TypeInfo) (ht : P.underlying t = some (.slice e)) (hu : P.underlying u = some .string) (hi : P.info? e = some i) (hz : i.zero = some (.int .u8 0))
    (hsize : i.size = 1) (hby : i.bytes = 1) (v : Value) (l s : List UInt8) (hs : a.eval sl = v) (hown : OwnT w base e v l) (hx : a.eval x = .string ⟨s.toArray⟩) (hl : l.length + s.length ≤ 140737488355328) (hbase : base ≤ w.heap.size)
    (h : ∀ v' w', OwnT w' base e v' (l ++ s) → w.grownBy w' v.ownBlock → K (a.put o.dst v') w') : o.wp P a w K Q := by
  obtain ⟨v', w', hr, h2, h3⟩ := run_append_textT (P := P) w base t u o.type e i ht hu hi hz hsize hby v l s hown hl hbase
  unfold Oper.wp execOp
  simp only [ho, resolve, invoke, builtin, Sem.run_bind, Sem.run_pure, Result.andThen_ok, List.map_toArray, List.map_cons, List.map_nil, hs, hx, hr]
  exact h v' w' h2 h3
theorem step_append_textT {P : Program} {w : World} {ops : Array Oper} {o : Oper} {a : Act} {K : Act → World → Prop} {Q : Exit → Act → World → Prop} {E : Prop} (hgd : o.guard = none) (sl x : Operand) (t u : TypeId)
    (ho : o.op = .call { callee := .builtin .append, args := #[sl, x], argTypes := #[t, u] })
    (base : Nat) (e : TypeId) (i : TypeInfo) (ht : P.underlying t = some (.slice e)) (hu : P.underlying u = some .string) (hi : P.info? e = some i) (hz : i.zero = some (.int .u8 0))
    (hsize : i.size = 1) (hby : i.bytes = 1) (v : Value) (l s : List UInt8) (hs : a.eval sl = v) (hown : OwnT w base e v l) (hx : a.eval x = .string ⟨s.toArray⟩) (hl : l.length + s.length ≤ 140737488355328) (hbase : base ≤ w.heap.size)
    (h : ∀ v' w', OwnT w' base e v' (l ++ s) → w.grownBy w' v.ownBlock → K (a.put o.dst v') w') :
    if Region.wanted o (yielded ops a.tmps) = true then Oper.wp P o a w K Q else E := by
  have hw : Region.wanted o (yielded ops a.tmps) = true := by simp [Region.wanted, hgd]
  rw [if_pos hw]
  exact wp_append_textT sl x t u ho base e i ht hu hi hz hsize hby v l s hs hown hx hl hbase h
theorem ownT_new (W : World) (base : Nat) (e : TypeId) (l : List UInt8) (hb : base ≤ W.heap.size) (hl : l.length ≤ maxLen) :
    OwnT (W.alloc (.cells (bytesRow ⟨l.toArray⟩ (grownCap W (ByteArray.mk l.toArray).size 0 e)) e ((bytesRow ⟨l.toArray⟩ (grownCap W (ByteArray.mk l.toArray).size 0 e)).size, (bytesRow ⟨l.toArray⟩ (grownCap W (ByteArray.mk l.toArray).size 0 e)).size + 1))) base e
      (.slice (some ⟨W.heap.size, 0, none⟩) l.length (grownCap W (ByteArray.mk l.toArray).size 0 e)) l := by
  have hss : (⟨l.toArray⟩ : ByteArray).size = l.length := Lib.size_mk l
  have hge := grownCap_ge W (ByteArray.mk l.toArray).size 0 e
  have hcm := grownCap_le_maxLen W (ByteArray.mk l.toArray).size 0 e (by rw [hss]; exact hl)
  obtain ⟨cap, hcap⟩ : ∃ c, grownCap W (ByteArray.mk l.toArray).size 0 e = c := ⟨_, rfl⟩
  rw [hcap] at hge hcm ⊢
  rw [hss] at hge
  have hsz : (bytesRow ⟨l.toArray⟩ cap).size = cap := by
    simp [bytesRow, hss]
    omega
  refine ⟨W.heap.size, cap, _, _, rfl, hb, heap_alloc_new W _, .inr (by rw [hsz]; exact Nat.le_refl _), hge, hcm, hsz, ?_⟩
  have : (bytesRow ⟨l.toArray⟩ cap).toList = bV l ++ List.replicate (cap - l.length) (.int .u8 0) := by
    simp [bytesRow, bV, hss]
  rw [this]
  have h2 : l.length = (bV l).length := by simp [bV_length]
  rw [h2]
  exact List.take_left
end Go.Proofs.YtegigcneimjimaaGreatDoor
