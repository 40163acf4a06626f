/- chancerylaw4: lent, stays, PrintRdn. -/
import Derived.Test.YtegigcneimjimaaGreatDoorDnO
import Derived.Test.YtegigcneimjimaaGreatDoorDnJ
import Derived.Test.YtegigcneimjimaaGreatDoorBdH
import Derived.OrdersHeld
import Derived.Test.YtegigcneimjimaaGreatDoorDnS
import Derived.IntWalk
namespace Go.Proofs.YtegigcneimjimaaGreatDoor
open Go.RowKit Go.Lib

theorem anyH_take {P : Program} {md : Region.Mode} {ops : Array Oper} {Q : Exit → Act → World → Prop} {S : World → Prop} (i : Nat) (v : Value) {oi : Oper} {fuel : Nat} {listed : Array Bool} {a : Act} {w : World} (hi : ops[i]? = some oi)
    (hs : Region.noSelect ops = true) (hf : Region.free md ops listed i = true) (hr : (Region.ready md ops listed).contains i = true) (hQ : ∀ c a w, Q (.panic c) (a.put oi.dst v) w → Q (.panic c) a w)
    (hw : Region.wanted oi (yielded ops a.tmps) = true) (hy : ∀ w, S w → (execOp a.eval oi).run P w = .ok (.value v) w) (hS : S w)
    (h : ∀ K' : Act → World → Prop, (∀ a w, wpAnyH P md ops Q S fuel (listed.setIfInBounds i true) a w → K' a w) → K' (a.put oi.dst v) w) : wpAnyH P md ops Q S (fuel + 1) listed a w :=
  wpAnyH_take hi hs hf hr hQ (Or.inl ⟨hw, hy⟩) hS (h _ (fun _ _ k => k))
theorem anyH_one {P : Program} {md : Region.Mode} {ops : Array Oper} {Q : Exit → Act → World → Prop} {S : World → Prop} (i : Nat) {o : Oper} {fuel : Nat} {listed : Array Bool} {a : Act} {w : World}
    (hr : Region.ready md ops listed = [i]) (ho : ops[i]? = some o) (hw : Region.wanted o (yielded ops a.tmps) = true)
    (h : ∀ K' : Act → World → Prop, (∀ a w, S w → wpAnyH P md ops Q S fuel (listed.setIfInBounds i true) a w → K' a w) → Oper.wp P o a w K' Q) : wpAnyH P md ops Q S (fuel + 1) listed a w :=
  wpAnyH_all hr (by simp) (fun j hj => by
    simp only [List.mem_singleton] at hj
    subst hj
    unfold wpOp
    rw [ho]
    simp only [hw, if_true]
    exact .inl (h _ (fun _ _ s k => ⟨s, k⟩)))
theorem anyH_two {P : Program} {md : Region.Mode} {ops : Array Oper} {Q : Exit → Act → World → Prop} {S : World → Prop} (i j : Nat) {o o' : Oper} {fuel : Nat} {listed : Array Bool} {a : Act} {w : World}
    (hr : Region.ready md ops listed = [i, j]) (ho : ops[i]? = some o) (hw : Region.wanted o (yielded ops a.tmps) = true) (ho' : ops[j]? = some o') (hw' : Region.wanted o' (yielded ops a.tmps) = true)
    (h : ∀ K' : Act → World → Prop, (∀ a w, S w → wpAnyH P md ops Q S fuel (listed.setIfInBounds i true) a w → K' a w) → Oper.wp P o a w K' Q)
    (h' : ∀ K' : Act → World → Prop, (∀ a w, S w → wpAnyH P md ops Q S fuel (listed.setIfInBounds j true) a w → K' a w) → Oper.wp P o' a w K' Q) : wpAnyH P md ops Q S (fuel + 1) listed a w :=
  wpAnyH_all hr (by simp) (fun k hk => by
    simp only [List.mem_cons, List.not_mem_nil, or_false] at hk
    rcases hk with rfl | rfl
    · unfold wpOp
      rw [ho]
      simp only [hw, if_true]
      exact .inl (h _ (fun _ _ s k => ⟨s, k⟩))
    · unfold wpOp
      rw [ho']
      simp only [hw', if_true]
      exact .inl (h' _ (fun _ _ s k => ⟨s, k⟩)))
/-- append of a part that lies somewhere onto nil. -/
theorem run_append_avs (w : World) (t ty : TypeId) (ht : Tryz.prog.underlying t = some (.slice 146)) (v : Value) (r : List Av) (h : AvsAt w v r) (hl : r.length * 32 ≤ 140737488355328) :
    ∃ v' w', (Builtin.append_ #[t, t] ty #[.slice none 0 0, v]).run Tryz.prog w = .ok v' w' ∧ w'.ownsRow w.heap.size 146 2 v' r.length (aV r) ∧ w.grownBy w' none := by
  obtain ⟨i0, hi0, hz0, hz1, hz2⟩ := info_parts Tryz.infoAva
  obtain ⟨a, cap, rfl, hc, hr⟩ := h
  cases a with
  | none =>
    have h0 : r = [] := by
      rcases Classical.em (r = []) with h | h
      · exact h
      · obtain ⟨g, o, hh, _⟩ := hr h; cases hh
    subst h0
    refine ⟨.slice none 0 0, w, ?_, World.ownsRow_nil _ _ _ _, World.grownBy.refl w _⟩
    simp [Builtin.append_, run_underlying ht, sizeOf, typeInfo, hi0, Builtin.lenOf, Builtin.firstCells]
  | some ad =>
    have hcells : ∀ i u, (aV r)[i]? = some u → w.cell? (ad.add i) = some u := by
      intro i u hi
      have h0 : r ≠ [] := by rintro rfl; simp [aV] at hi
      obtain ⟨g, o, hh, hcell⟩ := hr h0
      cases hh
      exact aV_cells hcell i u hi
    obtain ⟨v', w', hrun, h2, h3, _, _⟩ := run_append_own_at (P := Tryz.prog) w w.heap.size t ty 146 i0 (.agg #[.string ⟨#[]⟩, .string ⟨#[]⟩]) 2 32 ht hi0 hz0 hz1 hz2 rfl (by decide) (.slice none 0 0) 0 [] (World.ownsRow_nil _ _ _ _) ad r.length cap (aV r) (aV_length r) hcells (aV_one r) (by unfold maxLen; omega) (by omega) (Nat.le_refl _)
    rw [Nat.zero_add] at h2
    exact ⟨v', w', hrun, h2, h3⟩
theorem wp_append_avs {w : World} {o : Oper} {a : Act} {K : Act → World → Prop} {Q : Exit → Act → World → Prop} (x : Operand) (t : TypeId) (ho : o.op = .call { callee := .builtin .append, args := #[.const (.slice none 0 0), x], argTypes := #[t, t] })
    (ht : Tryz.prog.underlying t = some (.slice 146)) (v : Value) (r : List Av) (hx : a.eval x = v) (h : AvsAt w v r) (hl : r.length * 32 ≤ 140737488355328)
    (hk : ∀ v' w', w'.ownsRow w.heap.size 146 2 v' r.length (aV r) → w.grownBy w' none → K (a.put o.dst v') w') : o.wp Tryz.prog a w K Q := by
  obtain ⟨v', w', hr, h2, h3⟩ := run_append_avs w t o.type ht v r h hl
  unfold Oper.wp execOp
  have hc : a.eval (.const (.slice none 0 0)) = .slice none 0 0 := rfl
  simp only [ho, resolve, invoke, builtin, Sem.run_bind, Sem.run_pure, Result.andThen_ok, List.map_toArray, List.map_cons, List.map_nil, hc, hx, hr]
  exact hk v' w' h2 h3
def lentM : Av := ([109, 97, 114, 107], [])
/-- A part that was lent: a mark stands behind it. -/
def LentR (W : Nat) (w : World) (u : Value) (r : List Av) : Prop :=
  ∃ g cap, u = .slice (some ⟨g, 0, none⟩) r.length cap ∧ w.ownsRow W 146 2 (.slice (some ⟨g, 0, none⟩) (r.length + 1) cap) (r.length + 1) (aV (r ++ [lentM]))
theorem LentR.below {W : Nat} {w w' : World} {u : Value} {r : List Av} (h : LentR W w u r) (hb : Below w.heap.size w w') : LentR W w' u r := by
  obtain ⟨g, cap, e, ho⟩ := h
  exact ⟨g, cap, e, ownBelow ho hb⟩
theorem LentR.kd {G : Nat → Prop} {W : Nat} {w w' : World} {u : Value} {r : List Av} (h : LentR W w u r) (hk : KG G w w') (hG : ∀ b, G b → ¬ Ty w b 146) : LentR W w' u r := by
  obtain ⟨g, cap, e, ho⟩ := h
  exact ⟨g, cap, e, hk.own ho (fun b hb hg => hG b hg (own_ty ho hb))⟩
theorem LentR.mono {W W' : Nat} {w : World} {u : Value} {r : List Av} (h : LentR W w u r) (hW : W' ≤ W) : LentR W' w u r := by
  obtain ⟨g, cap, e, ho⟩ := h
  exact ⟨g, cap, e, ownMono ho hW⟩
/-- Values of parts that were lent. -/
def LentV (W : Nat) (w : World) (vs : List Value) (d : List (List Av)) : Prop := vs.length = d.length ∧ ∀ (j : Nat) (r : List Av), d[j]? = some r → ∃ u, vs[j]? = some u ∧ LentR W w u r
def LnRel (w : World) (d : List (List Av)) (v i : Value) (wr : World) : Prop :=
  ∃ (k : Nat) (vs : List Value), i = .int .i64 (k : Int) ∧ k ≤ d.length ∧ wr.ownsRow w.heap.size 66 1 v k vs ∧ LentV w.heap.size wr vs (d.take k) ∧ Below w.heap.size w wr
/-- A name that was lent. -/
def LentD (W : Nat) (w : World) (v : Value) (d : List (List Av)) : Prop :=
  ∃ g cap vs gm, v = .slice (some ⟨g, 0, none⟩) d.length cap ∧ w.ownsRow W 66 1 (.slice (some ⟨g, 0, none⟩) (d.length + 1) cap) (d.length + 1) (vs ++ [.slice (some ⟨gm, 0, none⟩) 1 1]) ∧ LentV W w vs d ∧ w.heap[gm]? = some (.cells #[.string ⟨#[109, 97, 114, 107]⟩, .string ⟨#[]⟩] 146 (0, 0))
theorem LentD.below {W : Nat} {w w' : World} {v : Value} {d : List (List Av)} (h : LentD W w v d) (hb : Below w.heap.size w w') : LentD W w' v d := by
  obtain ⟨g, cap, vs, gm, e, ho, hv, hm⟩ := h
  exact ⟨g, cap, vs, gm, e, ownBelow ho hb, ⟨hv.1, fun j r hj => by obtain ⟨u, h1, h2⟩ := hv.2 j r hj; exact ⟨u, h1, h2.below hb⟩⟩, (hb.block gm (Array.getElem?_eq_some_iff.1 hm).1).trans hm⟩
theorem LentR.at {W : Nat} {w : World} {u : Value} {r : List Av} (h : LentR W w u r) : AvsAt w u r := by
  obtain ⟨g, cap, rfl, ho⟩ := h
  have hc : r.length + 1 ≤ cap := by
    rcases ho.2 with ⟨h0, _⟩ | ⟨_, _, _, h0, _, _, h1, _⟩
    · cases h0
    · cases h0; exact h1
  refine ⟨_, cap, rfl, by omega, fun _ => ⟨g, 0, rfl, fun j x hj => ?_⟩⟩
  have hjl := (List.getElem?_eq_some_iff.1 hj).1
  obtain ⟨h1, h2⟩ := aV_get (r ++ [lentM]) j x (by rw [List.getElem?_append_left hjl]; exact hj)
  have c1 := ho.cells (g := g) rfl _ _ h1
  have c2 := ho.cells (g := g) rfl _ _ h2
  rw [Addr.add_lit] at c1 c2
  rw [Nat.add_assoc]
  exact ⟨c1, c2⟩
theorem LentD.at {W : Nat} {w : World} {v : Value} {d : List (List Av)} (h : LentD W w v d) : DnAt w v d := by
  obtain ⟨g, cap, vs, gm, rfl, ho, hv, hm⟩ := h
  have hc : d.length + 1 ≤ cap := by
    rcases ho.2 with ⟨h0, _⟩ | ⟨_, _, _, h0, _, _, h1, _⟩
    · cases h0
    · cases h0; exact h1
  refine ⟨_, cap, rfl, by omega, fun _ => ⟨g, 0, rfl, fun j r hj => ?_⟩⟩
  obtain ⟨u, h1, h2⟩ := hv.2 j r hj
  have c1 := ho.cells (g := g) rfl j u (by rw [List.getElem?_append_left (List.getElem?_eq_some_iff.1 h1).1]; exact h1)
  rw [Addr.add_lit] at c1
  exact ⟨u, c1, h2.at⟩
theorem lent_next {w wx w9 : World} {d : List (List Av)} {k : Nat} {vs : List Value} {v v9 u : Value} {x : List Av} (hx : d[k]? = some x) (hall : LentV w.heap.size wx vs (d.take k)) (hu : LentR w.heap.size wx u x) (hv : wx.ownsRow w.heap.size 66 1 v k vs)
    (hg : wx.grownBy w9 v.ownBlock) (h9 : w9.ownsRow w.heap.size 66 1 v9 (k + 1) (vs ++ [u])) (hb : Below w.heap.size w wx) : LnRel w d v9 (.int .i64 ((k : Int) + 1)) w9 := by
  have hkd := (List.getElem?_eq_some_iff.1 hx).1
  have hK : KG (fun b => v.ownBlock = some b) wx w9 := (KG.refl _ wx).grown hg (fun b hb => .inl hb)
  have hG : ∀ b, v.ownBlock = some b → ¬ Ty wx b 146 := fun b hb ht => absurd ((own_ty hv hb).eq ht) (by decide)
  refine ⟨k + 1, _, by go_num, hkd, h9, ⟨by rw [List.length_append, hall.1, List.length_take, List.length_take, List.length_singleton]; omega, fun j r hj => ?_⟩, hb.grown hg hb.size (fun b hb => (hv.lt b hb).1)⟩
  rw [List.take_add_one, hx] at hj
  rcases Nat.lt_or_ge j (d.take k).length with hl | hl
  · rw [List.getElem?_append_left hl] at hj
    obtain ⟨u', h1, h2⟩ := hall.2 j r hj
    exact ⟨u', by rw [List.getElem?_append_left (by rw [hall.1]; exact hl)]; exact h1, h2.kd hK hG⟩
  · rw [List.getElem?_append_right hl] at hj
    have hj0 : j - (d.take k).length = 0 := by
      have := (List.getElem?_eq_some_iff.1 hj).1
      simp only [Option.toList_some, List.length_singleton] at this
      omega
    rw [hj0] at hj
    simp at hj
    subst hj
    exact ⟨u, by rw [List.getElem?_append_right (by rw [hall.1]; exact hl), hall.1, hj0]; rfl, hu.kd hK hG⟩
set_option maxRecDepth 100000 in
set_option maxHeartbeats 4000000 in
theorem lent_any (v : Value) (d : List (List Av)) (w : World) (h : DnAt w v d) (hl : d.length ≤ 1000) (hr : ∀ r ∈ d, (r.length + 1) * 32 ≤ 140737488355328) :
    Calls Tryz.prog 22 #[v] w fun e w' => (∃ v', e = .returned v' ∧ LentD w.heap.size w' v' d) ∧ Below w.heap.size w w' := by
  have HH := Lib.hid h
  have HR := Lib.hid hr
  obtain ⟨a1, c1, rfl, hc1, hx1⟩ := h
  clear hx1 hr
  obtain ⟨i0, hi0, hz0, hz1, hz2⟩ := info_parts Tryz.infoAva
  obtain ⟨j0, hj0, hy0, hy1, hy2⟩ := info_parts Tryz.infoRdn
  go_enter Tryz.func22, Tryz.ntmps22
  go_wp2_with fail
  go_loopw [3, 4] (fun v i wr => LnRel w d v i wr) (fun _ i _ => d.length - (RowKit.intOf i).toNat)
  case atStart => exact ⟨0, [], rfl, by omega, World.ownsRow_nil _ _ _ _, ⟨rfl, fun j r hj => by simp at hj⟩, Below.refl _ _⟩
  case round =>
    obtain ⟨k, vs, rfl, hk, hown, hall, hbe⟩ := hrel
    by_cases hkl : k < d.length
    · obtain ⟨x, hx⟩ : ∃ x, d[k]? = some x := ⟨d[k], List.getElem?_eq_getElem hkl⟩
      have hr0 : d ≠ [] := by intro e; rw [e] at hkl; simp at hkl
      obtain ⟨a2, c2, e2, _, hcell⟩ := HH.out.below hbe
      obtain ⟨g, o, ha, hcc⟩ := hcell hr0
      cases e2
      subst ha
      obtain ⟨u, p1, hu⟩ := hcc k x hx
      have hgw : g < w.heap.size := by
        obtain ⟨_, _, e3, _, hc3⟩ := HH.out
        obtain ⟨g', o', ha', hcc'⟩ := hc3 hr0
        cases e3
        cases ha'
        obtain ⟨u', q1, _⟩ := hcc' k x hx
        exact lt_of_cell q1
      have hxl := HR.out x (List.mem_of_getElem? hx)
      have g3 : (k : Int) < (d.length : Int) := by omega
      have g4 : decide ((k : Int) < (d.length : Int)) = true := decide_eq_true g3
      have HU := Lib.hid hu
      have HX := Lib.hid hx
      have HAL := Lib.hid hall
      obtain ⟨au, cu, hue, _, _⟩ := hu
      subst hue
      clear hcc hcell hr0 hx hall
      go_wp2_with fail
      refine wp_region_held (S := fun w' => w'.cell? ⟨g, o + k, none⟩ = some (.slice au x.length cu)) (by kernel_rfl) ?_
      have p2 : wr.drew.cell? ⟨g, o + k, none⟩ = some (.slice au x.length cu) := p1
      have hown2 : wr.drew.ownsRow w.heap.size 66 1 u3 k vs := hown
      have HU2 : Hid (AvsAt wr.drew (.slice au x.length cu) x) := HU
      have HAL2 : Hid (LentV w.heap.size wr.drew vs (d.take k)) := HAL
      have hbe2 := hbe.drew
      change wpAnyH _ _ _ _ _ _ _ _ wr.drew
      clear p1 hown HU HAL hbe
      generalize wr.drew = wq at p2 hown2 HU2 HAL2 hbe2 ⊢
      refine anyH_take 0 u3 rfl (by kernel_rfl) (by kernel_rfl) (by kernel_rfl) (fun _ _ _ h => h) (by rfl) (fun w' hS => by go_simp) p2 (fun K hK => ?_); go_simp; refine hK _ _ ?_; clear hK K
      refine anyH_take 1 (.slice (some ⟨g, o, none⟩) d.length c1) rfl (by kernel_rfl) (by kernel_rfl) (by kernel_rfl) (fun _ _ _ h => h) (by rfl) (fun w' hS => by go_simp) p2 (fun K hK => ?_); go_simp; refine hK _ _ ?_; clear hK K
      refine anyH_take 2 (.int .i64 (k : Int)) rfl (by kernel_rfl) (by kernel_rfl) (by kernel_rfl) (fun _ _ _ h => h) (by rfl) (fun w' hS => by go_simp) p2 (fun K hK => ?_); go_simp; refine hK _ _ ?_; clear hK K
      refine anyH_take 3 (.pointer (some ⟨g, o + k, none⟩)) rfl (by kernel_rfl) (by kernel_rfl) (by kernel_rfl) (fun _ _ _ h => h) (by rfl) (fun w' hS => by go_simp) p2 (fun K hK => ?_); go_simp; refine hK _ _ ?_; clear hK K
      refine anyH_take 4 (.slice au x.length cu) rfl (by kernel_rfl) (by kernel_rfl) (by kernel_rfl) (fun _ _ _ h => h) (by rfl) (fun w' hS => by go_simp) p2 (fun K hK => ?_); go_simp; refine hK _ _ ?_; clear hK K
      refine anyH_take 6 (.agg #[.string ⟨#[109, 97, 114, 107]⟩, .string ⟨#[]⟩]) rfl (by kernel_rfl) (by kernel_rfl) (by kernel_rfl) (fun _ _ _ h => h) (by rfl) (fun w' hS => by go_simp) p2 (fun K hK => ?_); go_simp; refine hK _ _ ?_; clear hK K
      refine anyH_take 9 (.slice (some ⟨g, o, none⟩) d.length c1) rfl (by kernel_rfl) (by kernel_rfl) (by kernel_rfl) (fun _ _ _ h => h) (by rfl) (fun w' hS => by go_simp) p2 (fun K hK => ?_); go_simp; refine hK _ _ ?_; clear hK K
      refine anyH_take 10 (.int .i64 (k : Int)) rfl (by kernel_rfl) (by kernel_rfl) (by kernel_rfl) (fun _ _ _ h => h) (by rfl) (fun w' hS => by go_simp) p2 (fun K hK => ?_); go_simp; refine hK _ _ ?_; clear hK K
      refine anyH_take 11 (.pointer (some ⟨g, o + k, none⟩)) rfl (by kernel_rfl) (by kernel_rfl) (by kernel_rfl) (fun _ _ _ h => h) (by rfl) (fun w' hS => by go_simp) p2 (fun K hK => ?_); go_simp; refine hK _ _ ?_; clear hK K
      refine anyH_take 12 (.slice au x.length cu) rfl (by kernel_rfl) (by kernel_rfl) (by kernel_rfl) (fun _ _ _ h => h) (by rfl) (fun w' hS => by go_simp) p2 (fun K hK => ?_); go_simp; refine hK _ _ ?_; clear hK K
      refine anyH_take 13 (.int .i64 (x.length : Int)) rfl (by kernel_rfl) (by kernel_rfl) (by kernel_rfl) (fun _ _ _ h => h) (by rfl) (fun w' hS => by go_simp) p2 (fun K hK => ?_); go_simp; refine hK _ _ ?_; clear hK K
      refine anyH_two 5 7 (by kernel_rfl) rfl (by rfl) rfl (by rfl) (fun K hK => ?_) (fun K hK => ?_)
      refine wp_append_avs (.tmp 15) 66 rfl Tryz.underlying66 (.slice au x.length cu) x rfl HU2.out (by omega) ?_
      intro v1 w1 ho1 hg1
      have hbq1 : Below wq.heap.size wq w1 := (Below.refl _ _).grown hg1 (Nat.le_refl _) (fun b hb => by cases hb)
      have p3 := (hbq1.cell (lt_of_cell p2)).trans p2
      refine hK _ _ p3 ?_; clear hK K
      refine anyH_one 7 (by kernel_rfl) rfl (by rfl) (fun K hK => ?_); go_simp
      have hbx : Below w1.heap.size w1 (w1.alloc (.cells #[.string ⟨#[109, 97, 114, 107]⟩, .string ⟨#[]⟩] 146)) := (Below.refl _ _).alloc (Nat.le_refl _) _
      have px := (hbx.cell (lt_of_cell p3)).trans p3
      refine hK _ _ px ?_; clear hK K
      have hox := ownBelow ho1 hbx
      have hmx : (w1.alloc (.cells #[.string ⟨#[109, 97, 114, 107]⟩, .string ⟨#[]⟩] 146)).heap[w1.heap.size]? = some (.cells #[.string ⟨#[109, 97, 114, 107]⟩, .string ⟨#[]⟩] 146 (0, 0)) := alloc_at _ _ _ rfl
      have hbqx := below_ext hbq1 hbx
      obtain ⟨gm, hgm⟩ : ∃ gm, w1.heap.size = gm := ⟨_, rfl⟩
      rw [hgm] at hmx ⊢
      clear p3 hbq1 hbx ho1 hg1 hgm
      generalize w1.alloc (.cells #[.string ⟨#[109, 97, 114, 107]⟩, .string ⟨#[]⟩] 146) = wx at px hox hmx hbqx ⊢
      clear w1
      rotate_left
      go_simp
      have hbx : Below wq.heap.size wq (wq.alloc (.cells #[.string ⟨#[109, 97, 114, 107]⟩, .string ⟨#[]⟩] 146)) := (Below.refl _ _).alloc (Nat.le_refl _) _
      have p3 := (hbx.cell (lt_of_cell p2)).trans p2
      refine hK _ _ p3 ?_; clear hK K
      have hmx : (wq.alloc (.cells #[.string ⟨#[109, 97, 114, 107]⟩, .string ⟨#[]⟩] 146)).heap[wq.heap.size]? = some (.cells #[.string ⟨#[109, 97, 114, 107]⟩, .string ⟨#[]⟩] 146 (0, 0)) := alloc_at _ _ _ rfl
      obtain ⟨gm, hgm⟩ : ∃ gm, wq.heap.size = gm := ⟨_, rfl⟩
      refine anyH_one 5 (by kernel_rfl) rfl (by rfl) (fun K hK => ?_)
      refine wp_append_avs (.tmp 15) 66 rfl Tryz.underlying66 (.slice au x.length cu) x rfl (HU2.out.below hbx) (by omega) ?_
      intro v1 wx ho1 hg1
      have hbx2 : Below (wq.alloc (.cells #[.string ⟨#[109, 97, 114, 107]⟩, .string ⟨#[]⟩] 146)).heap.size (wq.alloc (.cells #[.string ⟨#[109, 97, 114, 107]⟩, .string ⟨#[]⟩] 146)) wx := (Below.refl _ _).grown hg1 (Nat.le_refl _) (fun b hb => by cases hb)
      have px := (hbx2.cell (lt_of_cell p3)).trans p3
      refine hK _ _ px ?_; clear hK K
      have hmx := (hbx2.block _ (Array.getElem?_eq_some_iff.1 hmx).1).trans hmx
      have hbqx := below_ext hbx hbx2
      have hox := ownMono ho1 hbx.size
      rw [hgm] at hmx ⊢
      clear p3 hbx hbx2 ho1 hg1 hgm
      rotate_left
      all_goals
        refine anyH_one 8 (by kernel_rfl) rfl (by rfl) (fun K hK => ?_)
        refine wp_append_lies _ (.tmp 16) (.tmp 18) 66 rfl wq.heap.size 146 i0 (.agg #[.string ⟨#[]⟩, .string ⟨#[]⟩]) 2 32 Tryz.underlying66 hi0 hz0 hz1 hz2 rfl (by decide) v1 x.length (aV x) rfl hox ⟨gm, 0, none⟩ 1 1 [.string ⟨#[109, 97, 114, 107]⟩, .string ⟨#[]⟩] rfl rfl (World.news_of_block hmx) (by intro y hy; simp at hy; rcases hy with rfl | rfl <;> rfl) (by decide) (by unfold maxLen; omega) (by omega) hbqx.size _ rfl ?_
        intro g8 cap8 w8 ho8 hg8 hat8 hlt8
        have hown8 := own_far hox (ownBelow hown2 hbqx) (by decide) hg8
        have hbq8 : Below wq.heap.size wq w8 := hbqx.grown hg8 hbqx.size (fun b hb => (hox.lt b hb).1)
        have p8 := (hbq8.cell (lt_of_cell p2)).trans p2
        have hu8 : LentR wq.heap.size w8 (.slice (some ⟨g8, 0, none⟩) x.length cap8) x := ⟨g8, cap8, rfl, by rw [aV_append]; exact ho8⟩
        have hal8 : LentV w.heap.size w8 vs (d.take k) := ⟨HAL2.out.1, fun j r hj => by obtain ⟨u', h1, h2⟩ := HAL2.out.2 j r hj; exact ⟨u', h1, h2.below hbq8⟩⟩
        have hcap8 : x.length + 1 ≤ cap8 := by
          rcases ho8.2 with ⟨h0, _⟩ | ⟨_, _, _, h0, _, _, h1, _⟩
          · cases h0
          · cases h0; exact h1
        refine hK _ _ p8 ?_; clear hK K
        clear px hox hmx hbqx hg8 hat8 ho8
        have g5 : (x.length : Int) ≤ (cap8 : Int) := by omega
        refine anyH_one 14 (by kernel_rfl) rfl (by rfl) (fun K hK => ?_); go_simp
        refine hK _ _ p8 ?_; clear hK K
        refine anyH_one 15 (by kernel_rfl) rfl (by rfl) (fun K hK => ?_); go_simp
        have hb9 : Below w8.heap.size w8 (w8.alloc (.cells #[.slice (some ⟨g8, 0, none⟩) x.length cap8] 66)) := (Below.refl _ _).alloc (Nat.le_refl _) _
        have p9 := (hb9.cell (lt_of_cell p8)).trans p8
        refine hK _ _ p9 ?_; clear hK K
        have hown9 := ownBelow hown8 hb9
        have hu9 := hu8.below hb9
        have hal9 : LentV w.heap.size (w8.alloc (.cells #[.slice (some ⟨g8, 0, none⟩) x.length cap8] 66)) vs (d.take k) := ⟨hal8.1, fun j r hj => by obtain ⟨u', h1, h2⟩ := hal8.2 j r hj; exact ⟨u', h1, h2.below hb9⟩⟩
        have hbw9 := below_ext (below_ext hbe2 hbq8) hb9
        have hszq := hbe2.size
        refine anyH_one 16 (by kernel_rfl) rfl (by rfl) (fun K hK => ?_)
        refine wp_append_lies _ (.tmp 11) (.tmp 26) 60 rfl w.heap.size 66 j0 (.slice none 0 0) 1 24 Tryz.underlying60 hj0 hy0 hy1 hy2 rfl (by decide) u3 k vs rfl hown9 ⟨w8.heap.size, 0, none⟩ 1 1 [.slice (some ⟨g8, 0, none⟩) x.length cap8] rfl rfl (cell_one_new _ _ _) (by intro y hy; simp at hy; subst hy; rfl) (by decide) (by unfold maxLen; omega) (by omega) hbw9.size _ rfl ?_
        intro g10 cap10 w10 ho10 hg10 hat10 hlt10
        have p10 : w10.cell? ⟨g, o + k, none⟩ = some (.slice au x.length cu) := (World.cell?_of_block (hg10.block g (lt_of_cell p9) (fun e => by have h1 := (hown2.lt g e.symm).1; omega))).trans p9
        have hnext := lent_next HX.out hal9 (hu9.mono hszq) hown9 hg10 ho10 hbw9
        refine hK _ _ p10 ?_; clear hK K
        refine anyH_one 17 (by kernel_rfl) rfl (by rfl) (fun K hK => ?_); go_simp
        refine hK _ _ p10 ?_; clear hK K
        refine wpAnyH_done (by kernel_rfl) ?_ _
        clear hg10 ho10 hown9 hu9 hal9 hbw9 hb9 hown8 hu8 hal8 hbq8 p8 p9 p2 p10 hown2 HU2 HAL2 hbe2 hat10
        simp only [Exit.inBlock, Exit.then]
        refine ‹∀ (a : Act) (w : World), Code.wp _ _ _ a w → _› _ _ ?_
        go_wp2_with fail
        exact ⟨hnext, by simp [RowKit.intOf]; omega⟩
    · obtain rfl : k = d.length := by omega
      have g4 : decide (((d.length : Nat) : Int) < (d.length : Int)) = false := decide_eq_false (by omega)
      rw [List.take_of_length_le (Nat.le_refl _)] at hall
      have hsz := hbe.size
      have HAL := Lib.hid hall
      clear hall
      go_wp2_with (at_builtin; refine wpList_append_lies _ rfl (.tmp 28) (.tmp 31) 60 rfl w.heap.size 66 j0 (.slice none 0 0) 1 24 Tryz.underlying60 hj0 hy0 hy1 hy2 rfl (by decide) u3 d.length vs rfl ((hown.alloc _).alloc _) ⟨wr.heap.size + 1, 0, none⟩ 1 1 [.slice (some ⟨wr.heap.size, 0, none⟩) 1 1] rfl rfl (cells_num _ _ _ _ (by simp)) ?e2 (by decide) ?e3 ?e4 ?e5 _ rfl ?_)
      case e2 => intro y hy; simp at hy; subst hy; rfl
      case e3 => unfold maxLen; omega
      case e4 => omega
      case e5 => simp; omega
      intro g10 cap10 w10 ho10 hg10 hat10 hlt10
      have hbA : Below wr.heap.size wr (wr.alloc (.cells #[.string ⟨#[109, 97, 114, 107]⟩, .string ⟨#[]⟩] 146)) := (Below.refl _ _).alloc (Nat.le_refl _) _
      have hbB : Below wr.heap.size wr ((wr.alloc (.cells #[.string ⟨#[109, 97, 114, 107]⟩, .string ⟨#[]⟩] 146)).alloc (.cells #[.slice (some ⟨wr.heap.size, 0, none⟩) 1 1] 66)) := hbA.alloc hbA.size _
      have hm0 : ((wr.alloc (.cells #[.string ⟨#[109, 97, 114, 107]⟩, .string ⟨#[]⟩] 146)).alloc (.cells #[.slice (some ⟨wr.heap.size, 0, none⟩) 1 1] 66)).heap[wr.heap.size]? = some (.cells #[.string ⟨#[109, 97, 114, 107]⟩, .string ⟨#[]⟩] 146 (0, 0)) := (Lib.alloc_old _ _ _ (by simp)).trans (alloc_at _ _ _ rfl)
      have hoB := ownBelow hown hbB
      have hK : KG (fun b => u3.ownBlock = some b) ((wr.alloc (.cells #[.string ⟨#[109, 97, 114, 107]⟩, .string ⟨#[]⟩] 146)).alloc (.cells #[.slice (some ⟨wr.heap.size, 0, none⟩) 1 1] 66)) w10 := (KG.refl _ _).grown hg10 (fun b hb => .inl hb)
      have hG : ∀ b, u3.ownBlock = some b → ¬ Ty ((wr.alloc (.cells #[.string ⟨#[109, 97, 114, 107]⟩, .string ⟨#[]⟩] 146)).alloc (.cells #[.slice (some ⟨wr.heap.size, 0, none⟩) 1 1] 66)) b 146 := fun b hb ht => absurd ((own_ty hoB hb).eq ht) (by decide)
      have hm10 := (hK.block wr.heap.size (by simp; omega) (fun hb => hG _ hb ⟨_, _, hm0⟩)).trans hm0
      have hfin : LentD w.heap.size w10 (.slice (some ⟨g10, 0, none⟩) d.length cap10) d := ⟨g10, cap10, vs, wr.heap.size, rfl, ho10, ⟨HAL.out.1, fun j r hj => by obtain ⟨u', h1, h2⟩ := HAL.out.2 j r hj; exact ⟨u', h1, (h2.below hbB).kd hK hG⟩⟩, hm10⟩
      have hbw : Below w.heap.size w w10 := (hbe.trans (hbB.mono hsz)).grown hg10 (by simp; omega) (fun b hb => (hown.lt b hb).1)
      have hcap : d.length + 1 ≤ cap10 := by
        rcases ho10.2 with ⟨h0, _⟩ | ⟨_, _, _, h0, _, _, h1, _⟩
        · cases h0
        · cases h0; exact h1
      have g5 : (d.length : Int) ≤ (cap10 : Int) := by omega
      clear hm10 hm0 hK hG hoB ho10 hg10 hat10 HAL hbA hbB
      go_wp2_with fail
      go_ret
      exact ⟨⟨_, rfl, hfin⟩, hbw⟩
end Go.Proofs.YtegigcneimjimaaGreatDoor
namespace Go.Proofs.YtegigcneimjimaaGreatDoor
open Go.RowKit Go.Lib

theorem LentR.mark {W : Nat} {w : World} {u : Value} {r : List Av} (h : LentR W w u r) : ∃ g cap, u = .slice (some ⟨g, 0, none⟩) r.length cap ∧ r.length + 1 ≤ cap ∧ w.cell? ⟨g, r.length * 2, none⟩ = some (.string ⟨#[109, 97, 114, 107]⟩) := by
  obtain ⟨g, cap, rfl, ho⟩ := h
  have hc : r.length + 1 ≤ cap := by
    rcases ho.2 with ⟨h0, _⟩ | ⟨_, _, _, h0, _, _, h1, _⟩
    · cases h0
    · cases h0; exact h1
  obtain ⟨h1, h2⟩ := aV_get (r ++ [lentM]) r.length lentM (by rw [List.getElem?_append_right (Nat.le_refl _), Nat.sub_self]; rfl)
  have c1 := ho.cells (g := g) rfl _ _ h1
  rw [Addr.add_lit, Nat.zero_add, Nat.mul_comm] at c1
  exact ⟨g, cap, rfl, hc, c1⟩
theorem LentD.parts {W : Nat} {w : World} {v : Value} {d : List (List Av)} (h : LentD W w v d) : ∃ g cap gm, v = .slice (some ⟨g, 0, none⟩) d.length cap ∧ d.length + 1 ≤ cap ∧ w.cell? ⟨g, d.length, none⟩ = some (.slice (some ⟨gm, 0, none⟩) 1 1) ∧ w.cell? ⟨gm, 0, none⟩ = some (.string ⟨#[109, 97, 114, 107]⟩) ∧
    ∀ (j : Nat) (r : List Av), d[j]? = some r → ∃ u, w.cell? ⟨g, j, none⟩ = some u ∧ LentR W w u r := by
  obtain ⟨g, cap, vs, gm, rfl, ho, hv, hm⟩ := h
  have hc : d.length + 1 ≤ cap := by
    rcases ho.2 with ⟨h0, _⟩ | ⟨_, _, _, h0, _, _, h1, _⟩
    · cases h0
    · cases h0; exact h1
  refine ⟨g, cap, gm, rfl, hc, own_cell1 ho (by rw [List.getElem?_append_right (by rw [hv.1]; exact Nat.le_refl _), hv.1, Nat.sub_self]; rfl), by rw [Lib.cell_of_heap hm]; rfl, fun j r hj => ?_⟩
  obtain ⟨u, h1, h2⟩ := hv.2 j r hj
  exact ⟨u, own_cell1 ho (by rw [List.getElem?_append_left (List.getElem?_eq_some_iff.1 h1).1]; exact h1), h2⟩
set_option maxRecDepth 100000 in
set_option maxHeartbeats 4000000 in
theorem stays_any (W : Nat) (v u : Value) (d : List (List Av)) (w : World) (h1 : LentD W w v d) (h2 : DnAt w u d) (hl : d.length ≤ 1000) (hr : ∀ r ∈ d, r.length ≤ 140737488355328) :
    Calls Tryz.prog 28 #[v, u] w fun e w' => e = .returned (.bool true) ∧ Below w.heap.size w w' := by
  have H1 := Lib.hid h1
  have H2 := Lib.hid h2
  have HR := Lib.hid hr
  obtain ⟨g, cap, gm, rfl, hc, hmk, hm0, hp⟩ := h1.parts
  obtain ⟨a2, c2, rfl, hc2, _⟩ := h2
  have HP := Lib.hid hp
  clear hp hr h1
  go_enter Tryz.func28, Tryz.ntmps28
  go_wp2_with fail
  go_loopw [5] (fun i wr => ∃ k m : Nat, i = .int .i64 (k : Int) ∧ k ≤ d.length ∧ wr = w.drewN m) (fun i _ => d.length - (RowKit.intOf i).toNat)
  case atStart => exact ⟨0, 0, rfl, by omega, rfl⟩
  case round =>
    obtain ⟨k, m, rfl, hk, rfl⟩ := hrel
    by_cases hkl : k < d.length
    · obtain ⟨x, hx⟩ : ∃ x, d[k]? = some x := ⟨d[k], List.getElem?_eq_getElem hkl⟩
      obtain ⟨ux, p1, hux⟩ := HP.out k x hx
      obtain ⟨gx, cx, rfl, hcx, p2⟩ := hux.mark
      have hxl := HR.out x (List.mem_of_getElem? hx)
      have g3 : (k : Int) < (d.length : Int) := by omega
      have g4 : decide ((k : Int) < (d.length : Int)) = true := decide_eq_true g3
      have g5 : IntKind.i64.wrap ((x.length : Int) + 1) = (x.length : Int) + 1 := IntWalk.i64_in _ (by omega)
      have g6 : (0 : Int) ≤ (x.length : Int) + 1 := by omega
      have g7 : (x.length : Int) + 1 ≤ (cx : Int) := by omega
      have g8 : ((x.length : Int) + 1).toNat = x.length + 1 := by omega
      have g9 : (x.length : Int) < (x.length : Int) + 1 := by omega
      clear hx hux hmk hm0
      go_wp2
      go_quiet (fail)
      go_wp2
      exact ⟨⟨k + 1, _, by go_num, by omega, rfl⟩, by simp [RowKit.intOf]; omega⟩
    · obtain rfl : k = d.length := by omega
      have g4 : decide (((d.length : Nat) : Int) < (d.length : Int)) = false := decide_eq_false (by omega)
      have ks := Same_any _ _ d d (w.drewN m) (show DnAt (w.drewN m) _ _ from H1.out.at) (show DnAt (w.drewN m) _ _ from H2.out) (by omega) (by omega) HR.out HR.out
      rw [decide_eq_true rfl] at ks
      have g5 : IntKind.i64.wrap ((d.length : Int) + 1) = (d.length : Int) + 1 := IntWalk.i64_in _ (by omega)
      have g7 : (d.length : Int) + 1 ≤ (cap : Int) := by omega
      have g9 : (d.length : Int) < (d.length : Int) + 1 := by omega
      have hmk1 : (w.drewN m).cell? ⟨g, d.length, none⟩ = some (.slice (some ⟨gm, 0, none⟩) 1 1) := hmk
      have hm1 : (w.drewN m).cell? ⟨gm, 0, none⟩ = some (.string ⟨#[109, 97, 114, 107]⟩) := hm0
      have hb0 : Below w.heap.size w (w.drewN m) := Below.drewN (Below.refl _ _) m
      clear hmk hm0
      generalize w.drewN m = wd at ks hmk1 hm1 hb0 ⊢
      go_wp2_with (go_at_call 18; refine Calls.mono (show Calls _ _ _ _ _ from ks) ?_; rintro e w6 ⟨rfl, hb6⟩; have q1 := (hb6.cell (lt_of_cell hmk1)).trans hmk1; have q2 := (hb6.cell (lt_of_cell hm1)).trans hm1)
      go_ret
      exact ⟨rfl, below_ext hb0 hb6⟩
set_option maxRecDepth 100000 in
set_option maxHeartbeats 2000000 in
theorem PrintRdn_any (v : Value) (r : List Av) (w : World) (h : AvsAt w v r) (hE : Env w) (hok : ∀ a ∈ r, a.1.length ≤ 140737488355328) (hrl : r.length ≤ 140737488355328) :
    Calls Tryz.prog 25 #[v] w fun e w' => e = .returned (.tuple #[.string ⟨(printB [r]).1.toArray⟩, .int .i64 (printB [r]).2]) ∧ Below w.heap.size w w' := by
  have H := Lib.hid h
  obtain ⟨a, c, rfl, _, _⟩ := h
  have hbA : Below w.heap.size w (w.alloc (.cells #[.slice a r.length c] 66)) := (Below.refl _ _).alloc (Nat.le_refl _) _
  have hd : DnAt (w.alloc (.cells #[.slice a r.length c] 66)) (.slice (some ⟨w.heap.size, 0, none⟩) 1 1) [r] :=
    dnAt_own (own_new1 w w.heap.size (Nat.le_refl _) (.slice a r.length c)) rfl (fun j x hj => by
      cases j with
      | zero => simp at hj; subst hj; exact ⟨_, rfl, H.out.below hbA⟩
      | succ j => simp at hj)
  have kp := Print_any _ [r] _ hd (hE.below hbA) (fun x hx a ha => by simp at hx; subst hx; exact hok a ha) (by simp) (fun x hx => by simp at hx; subst hx; exact hrl)
  clear hd
  go_enter Tryz.func25, Tryz.ntmps25
  go_wp2_with (go_at_call 23; refine Calls.mono (show Calls _ _ _ _ _ from kp) ?_; rintro e w1 ⟨rfl, hb1⟩)
  go_ret2
  exact ⟨rfl, below_ext hbA hb1⟩
end Go.Proofs.YtegigcneimjimaaGreatDoor
