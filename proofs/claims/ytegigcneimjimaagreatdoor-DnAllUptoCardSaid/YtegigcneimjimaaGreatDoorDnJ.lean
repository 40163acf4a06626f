/- dn: slices.Clone of a part, copied, Parent, Join: what they return. -/
import Derived.Test.YtegigcneimjimaaGreatDoorDnM
namespace Go.Proofs.YtegigcneimjimaaGreatDoor
open Go.RowKit Go.Lib

theorem aV_cells {w : World} {g o : Nat} {r : List Av} (h : ∀ j x, r[j]? = some x → w.cell? ⟨g, o + 2 * j, none⟩ = some (.string ⟨x.1.toArray⟩) ∧ w.cell? ⟨g, o + 2 * j + 1, none⟩ = some (.string ⟨x.2.toArray⟩)) :
    ∀ i u, (aV r)[i]? = some u → w.cell? ((⟨g, o, none⟩ : Addr).add i) = some u := by
  intro i u hi
  have hl : i < (aV r).length := (List.getElem?_eq_some_iff.1 hi).1
  rw [aV_length] at hl
  have hx : r[i / 2]? = some r[i / 2] := List.getElem?_eq_getElem (by omega)
  obtain ⟨h1, h2⟩ := aV_get r (i / 2) _ hx
  obtain ⟨c1, c2⟩ := h (i / 2) _ hx
  rw [Addr.add_lit]
  rcases Nat.mod_two_eq_zero_or_one i with hm | hm
  · have e : i = 2 * (i / 2) := by omega
    rw [e, h1] at hi
    cases hi
    rw [show o + i = o + 2 * (i / 2) by omega]
    exact c1
  · have e : i = 2 * (i / 2) + 1 := by omega
    rw [e, h2] at hi
    cases hi
    rw [show o + i = o + 2 * (i / 2) + 1 by omega]
    exact c2
/-- A part in a block of the call's own, or in none. -/
def AvsC (B : Nat) (w : World) (v : Value) (r : List Av) : Prop := w.ownsRow B 146 2 v r.length (aV r)
theorem avsC_own {B : Nat} {w : World} {v : Value} {r : List Av} (h : w.ownsRow B 146 2 v r.length (aV r)) : AvsC B w v r := h
theorem AvsC.at {B : Nat} {w : World} {v : Value} {r : List Av} (h : AvsC B w v r) : AvsAt w v r := own_avs h
theorem AvsC.blk {B : Nat} {w : World} {v : Value} {r : List Av} (h : AvsC B w v r) : ∀ g, v.ownBlock = some g → B ≤ g ∧ g < w.heap.size := World.ownsRow.lt h
theorem AvsC.below {B : Nat} {w w' : World} {v : Value} {r : List Av} (h : AvsC B w v r) (hb : Below w.heap.size w w') : AvsC B w' v r := ownBelow h hb
theorem AvsC.mono {B B' : Nat} {w : World} {v : Value} {r : List Av} (h : AvsC B' w v r) (hB : B ≤ B') : AvsC B w v r := ownMono h hB
theorem AvsC.grown {B : Nat} {w w' : World} {v : Value} {r : List Av} {row : Option Nat} (h : AvsC B w v r) (hg : w.grownBy w' row) (hr : ∀ k, row = some k → v.ownBlock ≠ some k) : AvsC B w' v r := by
  refine World.ownsRow.kept h hg ?_
  cases hk : v.ownBlock with
  | none => exact .inl rfl
  | some g => exact .inr (fun e => hr g e.symm hk)
def AllC (B : Nat) (w : World) (vs : List Value) (d : List (List Av)) : Prop := vs.length = d.length ∧ ∀ (j : Nat) (r : List Av), d[j]? = some r → ∃ u, vs[j]? = some u ∧ AvsC B w u r
theorem AllC.below {B : Nat} {w w' : World} {vs : List Value} {d : List (List Av)} (h : AllC B w vs d) (hb : Below w.heap.size w w') : AllC B w' vs d :=
  ⟨h.1, fun j r hj => by obtain ⟨u, h1, h2⟩ := h.2 j r hj; exact ⟨u, h1, h2.below hb⟩⟩
theorem AllC.grown {B : Nat} {w w' : World} {vs : List Value} {d : List (List Av)} {row : Option Nat} (h : AllC B w vs d) (hg : w.grownBy w' row) (hr : ∀ u ∈ vs, ∀ k, row = some k → u.ownBlock ≠ some k) : AllC B w' vs d :=
  ⟨h.1, fun j r hj => by obtain ⟨u, h1, h2⟩ := h.2 j r hj; exact ⟨u, h1, h2.grown hg (hr u (List.mem_of_getElem? h1))⟩⟩
theorem AllC.snoc {B : Nat} {w : World} {vs : List Value} {d : List (List Av)} {v : Value} {p : List Av} (h : AllC B w vs d) (hp : AvsC B w v p) : AllC B w (vs ++ [v]) (d ++ [p]) := by
  refine ⟨by simp [h.1], fun j r hj => ?_⟩
  rcases Nat.lt_or_ge j d.length with hl | hl
  · rw [List.getElem?_append_left hl] at hj
    obtain ⟨u, h1, h2⟩ := h.2 j r hj
    exact ⟨u, by rw [List.getElem?_append_left (by rw [h.1]; exact hl)]; exact h1, h2⟩
  · rw [List.getElem?_append_right hl] at hj
    have hj0 : j - d.length = 0 := by
      rcases Nat.eq_zero_or_pos (j - d.length) with h' | h'
      · exact h'
      · rw [List.getElem?_eq_none (by simp; omega)] at hj; cases hj
    rw [hj0] at hj
    simp at hj
    subst hj
    exact ⟨v, by rw [List.getElem?_append_right (by rw [h.1]; exact hl), h.1, hj0]; rfl, hp⟩
theorem AllC.lt {B : Nat} {w : World} {vs : List Value} {d : List (List Av)} (h : AllC B w vs d) {u : Value} (hu : u ∈ vs) {g : Nat} (hg : u.ownBlock = some g) : g < w.heap.size := by
  obtain ⟨j, hj⟩ := List.getElem?_of_mem hu
  have hl : j < d.length := by rw [← h.1]; exact (List.getElem?_eq_some_iff.1 hj).1
  obtain ⟨u', h1, h2⟩ := h.2 j d[j] (List.getElem?_eq_getElem hl)
  rw [hj] at h1
  cases h1
  exact (h2.blk g hg).2
/-- A row of parts reads as a name. -/
theorem dnAt_own {B : Nat} {w : World} {v : Value} {d : List (List Av)} {vs : List Value} {n : Nat} (h : w.ownsRow B 66 1 v n vs) (hn : n = d.length) (ha : ∀ (j : Nat) (r : List Av), d[j]? = some r → ∃ u, vs[j]? = some u ∧ AvsAt w u r) : DnAt w v d := by
  subst hn
  rcases h.2 with ⟨rfl, hz⟩ | ⟨g, cap, cur, hv, hbg, hg, hc, r'⟩
  · exact ⟨none, 0, by rw [hz], by omega, fun h0 => absurd (List.eq_nil_of_length_eq_zero hz) h0⟩
  · subst hv
    refine ⟨_, cap, rfl, hc, fun _ => ⟨g, 0, rfl, fun j r hj => ?_⟩⟩
    obtain ⟨u, h1, h2⟩ := ha j r hj
    have c1 := h.cells (g := g) rfl _ _ h1
    rw [Addr.add_lit] at c1
    exact ⟨u, c1, h2⟩
/-- The values of a name's parts. -/
theorem dn_vals {w : World} {v : Value} {d : List (List Av)} (h : DnAt w v d) : ∃ (a : Option Addr) (cap : Nat) (us : List Value), v = .slice a us.length cap ∧ us.length = d.length ∧ us.length ≤ cap ∧ (a = none → us = []) ∧
    (∀ ad, a = some ad → ∀ j u, us[j]? = some u → w.cell? (ad.add j) = some u) ∧ (∀ u ∈ us, u.oneCell' = true) ∧ ∀ (j : Nat) (r : List Av), d[j]? = some r → ∃ u, us[j]? = some u ∧ AvsAt w u r := by
  obtain ⟨a, cap, hv, hc, hr⟩ := h
  by_cases h0 : d = []
  · subst h0
    exact ⟨a, cap, [], hv, rfl, hc, fun _ => rfl, fun _ _ j u hu => (by simp at hu), fun u hu => (by cases hu), fun j r hj => (by simp at hj)⟩
  · obtain ⟨g, o, rfl, hcell⟩ := hr h0
    have hex : ∀ j, ∃ u, ∀ r, d[j]? = some r → w.cell? ⟨g, o + j, none⟩ = some u ∧ AvsAt w u r := by
      intro j
      cases hj : d[j]? with
      | none => exact ⟨.bool true, fun r hr => by cases hr⟩
      | some r =>
        obtain ⟨u, h1, h2⟩ := hcell j r hj
        exact ⟨u, fun r' hr' => by cases hr'; exact ⟨h1, h2⟩⟩
    let f := fun j => Classical.choose (hex j)
    have hf : ∀ j r, d[j]? = some r → w.cell? ⟨g, o + j, none⟩ = some (f j) ∧ AvsAt w (f j) r := fun j => Classical.choose_spec (hex j)
    have hlen : ((List.range d.length).map f).length = d.length := by simp
    refine ⟨some ⟨g, o, none⟩, cap, (List.range d.length).map f, by rw [hlen]; exact hv, hlen, by rw [hlen]; exact hc, fun h => (by cases h), ?_, ?_, ?_⟩
    · intro ad had j u hu
      cases had
      have hj : j < d.length := by have := (List.getElem?_eq_some_iff.1 hu).1; simpa using this
      rw [List.getElem?_map, List.getElem?_range hj] at hu
      cases hu
      rw [Addr.add_lit]
      exact (hf j d[j] (List.getElem?_eq_getElem hj)).1
    · intro u hu
      obtain ⟨j, hj, rfl⟩ := List.mem_map.1 hu
      have hj := List.mem_range.1 hj
      obtain ⟨_, _, hv', _⟩ := (hf j d[j] (List.getElem?_eq_getElem hj)).2
      rw [hv']
      rfl
    · intro j r hj
      have hjl : j < d.length := (List.getElem?_eq_some_iff.1 hj).1
      exact ⟨f j, by rw [List.getElem?_map, List.getElem?_range hjl]; rfl, (hf j r hj).2⟩
/-- append of nothing: a nil source, whatever its capacity says. -/
theorem wpList_append_void {P : Program} {w : World} {ops : Array Oper} {rest : List Oper} {o : Oper} {a : Act} {Q : Exit → Act → World → Prop} (hgd : o.guard = none) (s x : Operand) (t : TypeId)
    (ho : o.op = .call { callee := .builtin .append, args := #[s, x], argTypes := #[t, t] })
    (base : Nat) (e : TypeId) (i : TypeInfo) (size : Nat) (ht : P.underlying t = some (.slice e)) (hi : P.info? e = some i)
    (v : Value) (n : Nat) (xs : List Value) (hs : a.eval s = v) (hown : w.ownsRow base e size v n xs) (c : Nat) (hx : a.eval x = .slice none 0 c)
    (h : wpList P ops Q rest (a.put o.dst v) w) : wpList P ops Q (o :: rest) a w := by
  refine wpList_plain hgd fun K hK => ?_
  have hrun : (Builtin.append_ #[t, t] o.type #[v, .slice none 0 c]).run P w = .ok v w := by
    rcases hown.2 with ⟨rfl, rfl⟩ | ⟨g, cap, cur, rfl, _, _, hnc, _⟩
    · simp [Builtin.append_, run_underlying ht, sizeOf, typeInfo, hi, Builtin.lenOf, Builtin.firstCells]
    · simp [Builtin.append_, run_underlying ht, sizeOf, typeInfo, hi, Builtin.lenOf, Builtin.firstCells, hnc, storeCells]
  unfold Oper.wp
  simp [execOp, ho, resolve, invoke, builtin, hs, hx, hrun, Result.andThen]
  exact hK _ _ h
theorem own_zero (w : World) (t : TypeId) : (w.alloc (.cells #[] t)).ownsRow w.heap.size t 2 (.slice (some ⟨w.heap.size, 0, none⟩) 0 0) 0 [] :=
  ⟨rfl, .inr ⟨w.heap.size, 0, #[], rfl, Nat.le_refl _, alloc_at _ _ _ rfl, Nat.le_refl _, by decide, rfl, rfl⟩⟩
set_option maxRecDepth 100000 in
set_option maxHeartbeats 2000000 in
theorem Clone_any (v : Value) (r : List Av) (w : World) (h : AvsAt w v r) (hl : r.length * 32 ≤ 140737488351232) :
    Calls Tryz.prog 217 #[v] w fun e w' => (∃ v', e = .returned v' ∧ AvsC w.heap.size w' v' r) ∧ Below w.heap.size w w' := by
  obtain ⟨i0, hi0, hz0, hz1, hz2⟩ := info_parts Tryz.infoAva
  obtain ⟨a, cap, rfl, hc, hr⟩ := h
  cases a with
  | none =>
    have h0 : r = [] := by
      rcases List.eq_nil_or_concat r with h | ⟨_, _, h⟩
      · exact h
      · obtain ⟨g, o, hh, _⟩ := hr (by rw [h]; simp)
        cases hh
    subst h0
    clear hi0 hz0 hz1 hz2 hr
    have hq := fun w => Lib.run_eql_slice_nil (P := Tryz.prog) w 66 146 none 0 cap 0 0 Tryz.underlying66
    show Calls _ _ #[.slice none 0 cap] _ _
    go_enter Tryz.func217, Tryz.ntmps217
    go_wp2_with fail
    go_ret
    exact ⟨⟨_, rfl, World.ownsRow_nil _ _ _ _⟩, Below.refl _ _⟩
  | some ad =>
    have hcells : ∀ i u, (aV r)[i]? = some u → w.cell? (ad.add i) = some u := by
      intro i u hi
      have h0 : r ≠ [] := by rintro rfl; simp [aV] at hi
      obtain ⟨g, o, hh, hcell⟩ := hr h0
      cases hh
      exact aV_cells hcell i u hi
    have HC := Lib.hid hcells
    clear hcells hr
    have hone : ∀ u ∈ aV r, u.oneCell' = true := by
      intro u hu
      simp only [aV, List.mem_flatMap, List.mem_cons, List.not_mem_nil, or_false] at hu
      obtain ⟨x, _, rfl | rfl⟩ := hu <;> rfl
    have HO := Lib.hid hone
    clear hone
    have hq := fun w => Lib.run_eql_slice_nil (P := Tryz.prog) w 66 146 (some ad) r.length cap 0 0 Tryz.underlying66
    go_enter Tryz.func217, Tryz.ntmps217
    go_wp2_with (at_builtin; refine wpList_append_own _ rfl (.tmp 5) (.tmp 6) 66 rfl w.heap.size 146 i0 (.agg #[.string ⟨#[]⟩, .string ⟨#[]⟩]) 2 32 Tryz.underlying66 hi0 hz0 hz1 hz2 rfl (by decide) (.slice (some ⟨w.heap.size, 0, none⟩) 0 0) 0 [] rfl (own_zero w _) ad r.length cap (aV r) rfl (aV_length r) ?d1 HO.out ?d3 ?d4 ?d5 ?_)
    case d1 => intro j u hj; have h1 := HC.out j u hj; exact (Below.cell ((Below.refl w.heap.size w).alloc (Nat.le_refl _) _) (lt_of_cell h1)).trans h1
    case d3 => unfold maxLen; omega
    case d4 => omega
    case d5 => simp
    intro v' w7 ho7 hg7 _
    go_wp2_with fail
    go_ret
    refine ⟨⟨_, rfl, avsC_own ho7⟩, ?_⟩
    exact ((Below.refl w.heap.size w).alloc (Nat.le_refl _) _).grown hg7 (by simp) (fun b hb => by cases hb; exact Nat.le_refl _)
def CpRel (w : World) (d : List (List Av)) (v i : Value) (wr : World) : Prop :=
  ∃ (k : Nat) (vs : List Value), i = .int .i64 (k : Int) ∧ k ≤ d.length ∧ wr.ownsRow w.heap.size 66 1 v k vs ∧ AllC w.heap.size wr vs (d.take k) ∧ Off vs v ∧ Sep vs ∧ Below w.heap.size w wr
set_option maxRecDepth 100000 in
set_option maxHeartbeats 4000000 in
theorem copied_own (v : Value) (d : List (List Av)) (w : World) (h : DnAt w v d) (hl : d.length * 24 ≤ 140737488351232) (hr : ∀ r ∈ d, r.length * 32 ≤ 140737488351232) :
    Calls Tryz.prog 130 #[v] w fun e w' => (∃ v', e = .returned v' ∧ OwnD w.heap.size w' v' d) ∧ Below w.heap.size w w' := by
  have HH := Lib.hid h
  have HR := Lib.hid hr
  obtain ⟨a1, c1, rfl, hc1, hx1⟩ := h
  clear hx1 hr
  obtain ⟨i0, hi0, hz0, hz1, hz2⟩ := info_parts Tryz.infoRdn
  go_enter Tryz.func130, Tryz.ntmps130
  go_wp2_with fail
  go_loopw [3, 8] (fun v i wr => CpRel w d v i wr) (fun _ i _ => d.length - (RowKit.intOf i).toNat)
  case atStart => exact ⟨0, [], rfl, by omega, World.ownsRow_nil _ _ _ _, ⟨rfl, fun j r hj => (by simp at hj)⟩, fun u hu => (by cases hu), Sep.nil, Below.refl _ _⟩
  case round =>
    obtain ⟨k, vs, rfl, hk, hown, hall, hoff, hsep, hbe⟩ := hrel
    have hsz := hbe.size
    by_cases hkl : k < d.length
    · obtain ⟨x, hx⟩ : ∃ x, d[k] = x := ⟨_, rfl⟩
      have hxk : d[k]? = some x := by rw [List.getElem?_eq_getElem hkl, hx]
      have hmem : x ∈ d := List.mem_of_getElem? hxk
      have hr0 : d ≠ [] := by intro e; rw [e] at hkl; simp at hkl
      have htk : d.take (k + 1) = d.take k ++ [x] := by rw [List.take_add_one, hxk]; rfl
      have HT := Lib.hid htk
      obtain ⟨a2, cap2, e2, _, hcell⟩ := HH.out.below hbe
      obtain ⟨g, o, ha, hcc⟩ := hcell hr0
      cases e2
      subst ha
      obtain ⟨u, p1, hu⟩ := hcc k x hxk
      clear hcc hcell
      have kc := Clone_any u x wr hu (HR.out x hmem)
      obtain ⟨au, cu, hue, _, _⟩ := hu
      subst hue
      clear hx hxk hmem htk
      have gk : decide ((k : Int) < (d.length : Int)) = true := decide_eq_true (by omega)
      go_wp2_with (first | (go_at_call 217; refine Calls.mono (show Calls _ _ _ _ _ from kc) ?_; rintro e w4 ⟨⟨v4, rfl, hv4⟩, hb4⟩; have hown4 := own_below hown hb4; have hall4 := hall.below hb4; have hbe4 := below_ext hbe hb4; have hsz4 := hbe4.size; have hsep4 : Sep (vs ++ [v4]) := hsep.snoc (fun u hu j hj e => by have h1 := hall.lt hu hj; have h2 := (hv4.blk j e).1; omega); obtain ⟨a4, cap4, hv4e, _, _⟩ := hv4.at; subst hv4e) | (at_builtin; refine wpList_append_own_at _ rfl (.tmp 12) (.tmp 15) 60 rfl w.heap.size 66 i0 (.slice none 0 0) 1 24 Tryz.underlying60 hi0 hz0 hz1 hz2 rfl (by decide) u3 k vs rfl (hown4.alloc _) ⟨w4.heap.size, 0, none⟩ 1 1 [.slice a4 x.length cap4] rfl rfl (cell_one_new _ _ _) ?d2 ?d3 ?d4 ?d5 ?_))
      case d2 => intro u hu; simp at hu; subst hu; rfl
      case d3 => unfold maxLen; omega
      case d4 => omega
      case d5 => simp; omega
      intro v' w7 ho7 hg7 _ hat7
      have hb5 := (Below.refl w4.heap.size w4).alloc (Nat.le_refl _) (.cells #[.slice a4 x.length cap4] 66)
      have hv5 := (hv4.below hb5).mono hbe.size
      have hall6 := (hall4.below hb5).snoc hv5
      have hoff6 : Off (vs ++ [.slice a4 x.length cap4]) u3 := by
        intro u hu j hj e
        rcases List.mem_append.1 hu with hu | hu
        · exact hoff u hu j hj e
        · simp at hu
          subst hu
          have h1 := (hv4.blk j e).1
          have h2 := (hown.lt j hj).2
          omega
      have hall7 := hall6.grown hg7 (fun u hu j hj e => hoff6 u hu j hj e)
      have hoff7 : Off (vs ++ [.slice a4 x.length cap4]) v' := by
        intro u hu j hj e
        rcases hat7 with h' | h'
        · exact hoff6 u hu j (h' ▸ hj) e
        · have hg := hall6.lt hu e
          rw [h'] at hj
          have e1 := Option.some.inj hj
          simp at hg e1
          omega
      go_wp2_with fail
      go_roundw
      case rel =>
        refine ⟨k + 1, _, by go_num, by omega, ho7, ?_, hoff7, hsep4, ?_⟩
        · rw [HT.out]
          exact hall7
        · exact (hbe4.alloc hsz4 _).grown hg7 (by simp; omega) (fun b hb => (hown4.lt b hb).1)
      case measure => simp [RowKit.intOf]; omega
    · obtain rfl : k = d.length := by omega
      rw [List.take_of_length_le (Nat.le_refl _)] at hall
      have hfin : OwnD w.heap.size wr u3 d := ⟨vs, hown, fun j r hj => by obtain ⟨u, h1, h2⟩ := hall.2 j r hj; exact ⟨u, h1, h2⟩, hsep⟩
      have gk : ¬ d.length < d.length := hkl
      go_wp2_with fail
      go_ret
      exact ⟨⟨_, rfl, hfin⟩, hbe⟩
theorem dn_tail {w : World} {g o cap : Nat} {x : List Av} {d : List (List Av)} (h : DnAt w (.slice (some ⟨g, o, none⟩) (x :: d).length cap) (x :: d)) : DnAt w (.slice (some ⟨g, o + 1, none⟩) d.length (cap - 1)) d := by
  obtain ⟨a, c, hv, hc, hr⟩ := h
  cases hv
  obtain ⟨g', o', ha, hcell⟩ := hr (by simp)
  cases ha
  refine ⟨_, _, rfl, by simp at hc; omega, fun _ => ⟨g, o + 1, rfl, fun j r hj => ?_⟩⟩
  obtain ⟨u, h1, h2⟩ := hcell (j + 1) r (by simpa using hj)
  exact ⟨u, by rw [← h1]; congr 2; omega, h2⟩
set_option maxRecDepth 100000 in
set_option maxHeartbeats 2000000 in
theorem Parent_own (v : Value) (d : List (List Av)) (w : World) (h : DnAt w v d) (hl : d.length * 24 ≤ 140737488351232) (hr : ∀ r ∈ d, r.length * 32 ≤ 140737488351232) :
    Calls Tryz.prog 26 #[v] w fun e w' => (∃ v', e = .returned (.tuple #[v', .bool (!d.isEmpty)]) ∧ OwnD w.heap.size w' v' d.tail) ∧ Below w.heap.size w w' := by
  cases d with
  | nil =>
    obtain ⟨a1, c1, rfl, hc1, hx1⟩ := h
    clear hx1 hr
    go_enter Tryz.func26, Tryz.ntmps26
    go_wp2_with fail
    go_ret2
    exact ⟨⟨_, rfl, OwnD.nil _ _⟩, Below.refl _ _⟩
  | cons x d =>
    obtain ⟨a1, c1, hv, hc1, hx1⟩ := id h
    obtain ⟨g, o, ha, _⟩ := hx1 (by simp)
    subst hv ha
    clear hx1
    have ht := dn_tail h
    have h0 : ((d.length : Int) + 1 == 0) = false := by rw [beq_eq_false_iff_ne]; omega
    have hr2 : ∀ r ∈ d, r.length * 32 ≤ 140737488351232 := fun r hh => hr r (List.mem_cons_of_mem _ hh)
    have hl2 : d.length * 24 ≤ 140737488351232 := by simp only [List.length_cons] at hl; omega
    have hcl : d.length + 1 ≤ c1 := hc1
    by_cases hc : c1 = 1
    · subst hc
      obtain rfl : d = [] := List.eq_nil_of_length_eq_zero (by omega)
      have k := copied_own (.slice (some ⟨g, o, none⟩) 0 0) [] w ⟨_, 0, rfl, Nat.le_refl _, fun h => absurd rfl h⟩ hl2 hr2
      clear hr hr2 h ht
      go_enter Tryz.func26, Tryz.ntmps26
      go_wp2_with (go_at_call 130; refine Calls.mono (show Calls _ _ _ _ _ from k) ?_; rintro e w1 ⟨⟨v1, rfl, hv1⟩, hb1⟩)
      go_ret2
      exact ⟨⟨_, rfl, hv1⟩, hb1⟩
    · have k := copied_own _ d w ht hl2 hr2
      clear hr hr2 h ht
      go_enter Tryz.func26, Tryz.ntmps26
      go_wp2_with (go_at_call 130; refine Calls.mono (show Calls _ _ _ _ _ from k) ?_; rintro e w1 ⟨⟨v1, rfl, hv1⟩, hb1⟩)
      go_ret2
      exact ⟨⟨_, rfl, hv1⟩, hb1⟩
set_option maxRecDepth 100000 in
set_option maxHeartbeats 2000000 in
theorem DJoin_own (u v : Value) (r : List Av) (d : List (List Av)) (w : World) (hu : AvsAt w u r) (h : DnAt w v d) (hl : d.length ≤ 1000000) (hr : ∀ x ∈ r :: d, x.length * 32 ≤ 140737488351232) :
    Calls Tryz.prog 27 #[u, v] w fun e w' => (∃ v', e = .returned v' ∧ OwnD w.heap.size w' v' (r :: d)) ∧ Below w.heap.size w w' := by
  obtain ⟨i0, hi0, hz0, hz1, hz2⟩ := info_parts Tryz.infoRdn
  obtain ⟨a, cap, us, rfl, hus, huc, hnone, hcells, hone, hall⟩ := dn_vals h
  obtain ⟨au, cu, hue, hcu, hau⟩ := id hu
  subst hue
  have hbA := (Below.refl w.heap.size w).alloc (Nat.le_refl _) (.cells #[.slice au r.length cu] 66)
  have hoA := own_new1 w w.heap.size (Nat.le_refl _) (.slice au r.length cu)
  have fin : ∀ (v' : Value) (w7 : World), w7.ownsRow w.heap.size 66 1 v' (1 + us.length) ([.slice au r.length cu] ++ us) → Below w.heap.size w w7 → DnAt w7 v' (r :: d) := by
    intro v' w7 ho hb
    refine dnAt_own ho (by rw [hus, List.length_cons]; omega) (fun j x hj => ?_)
    cases j with
    | zero =>
      simp at hj
      subst hj
      exact ⟨_, rfl, hu.below hb⟩
    | succ j =>
      obtain ⟨y, h1, h2⟩ := hall j x (by simpa using hj)
      exact ⟨y, by simpa using h1, h2.below hb⟩
  have HF := Lib.hid fin
  have HC := Lib.hid hcells
  have HO := Lib.hid hone
  have HR := Lib.hid hr
  have HU := Lib.hid hus
  have hul : us.length ≤ 1000000 := by omega
  clear fin hcells hone hall hau hr h hu hus
  cases a with
  | none =>
    obtain rfl := hnone rfl
    clear hnone
    go_enter Tryz.func27, Tryz.ntmps27
    go_wp2_with (at_builtin; refine wpList_append_void rfl (.tmp 6) (.tmp 7) 60 rfl w.heap.size 66 i0 1 Tryz.underlying60 hi0 (.slice (some ⟨w.heap.size, 0, none⟩) 1 1) 1 [.slice au r.length cu] rfl hoA cap rfl ?_)
    have k := copied_own _ (r :: d) _ (HF.out _ _ hoA hbA) (by rw [List.length_cons]; omega) HR.out
    go_wp2_with (go_at_call 130; refine Calls.mono (show Calls _ _ _ _ _ from k) ?_; rintro e w1 ⟨⟨v1, rfl, hv1⟩, hb1⟩)
    go_ret
    exact ⟨⟨_, rfl, hv1.mono hbA.size⟩, below_ext hbA hb1⟩
  | some ad =>
    clear hnone
    go_enter Tryz.func27, Tryz.ntmps27
    go_wp2_with (at_builtin; refine wpList_append_own _ rfl (.tmp 6) (.tmp 7) 60 rfl w.heap.size 66 i0 (.slice none 0 0) 1 24 Tryz.underlying60 hi0 hz0 hz1 hz2 rfl (by decide) (.slice (some ⟨w.heap.size, 0, none⟩) 1 1) 1 [.slice au r.length cu] rfl hoA ad us.length cap us rfl (by simp) ?d1 HO.out ?d3 ?d4 ?d5 ?_)
    case d1 => intro j y hj; have h1 := HC.out ad rfl j y hj; exact (hbA.cell (lt_of_cell h1)).trans h1
    case d3 => unfold maxLen; omega
    case d4 => omega
    case d5 => simp
    intro v' w7 ho7 hg7 _
    have hb7 : Below w.heap.size w w7 := hbA.grown hg7 (by simp) (fun b hb => by cases hb; exact Nat.le_refl _)
    have k := copied_own v' (r :: d) w7 (HF.out v' w7 ho7 hb7) (by rw [List.length_cons]; omega) HR.out
    go_wp2_with (go_at_call 130; refine Calls.mono (show Calls _ _ _ _ _ from k) ?_; rintro e w1 ⟨⟨v1, rfl, hv1⟩, hb1⟩)
    go_ret
    exact ⟨⟨_, rfl, hv1.mono hb7.size⟩, below_ext hb7 hb1⟩
theorem Parent_any (v : Value) (d : List (List Av)) (w : World) (h : DnAt w v d) (hl : d.length * 24 ≤ 140737488351232) (hr : ∀ r ∈ d, r.length * 32 ≤ 140737488351232) :
    Calls Tryz.prog 26 #[v] w fun e w' => (∃ v', e = .returned (.tuple #[v', .bool (!d.isEmpty)]) ∧ DnAt w' v' d.tail) ∧ Below w.heap.size w w' :=
  (Parent_own v d w h hl hr).mono fun _ _ ⟨⟨v, h1, h2⟩, hb⟩ => ⟨⟨v, h1, h2.at⟩, hb⟩
theorem Join_any (u v : Value) (r : List Av) (d : List (List Av)) (w : World) (hu : AvsAt w u r) (h : DnAt w v d) (hl : d.length ≤ 1000000) (hr : ∀ x ∈ r :: d, x.length * 32 ≤ 140737488351232) :
    Calls Tryz.prog 27 #[u, v] w fun e w' => (∃ v', e = .returned v' ∧ DnAt w' v' (r :: d)) ∧ Below w.heap.size w w' :=
  (DJoin_own u v r d w hu h hl hr).mono fun _ _ ⟨⟨v, h1, h2⟩, hb⟩ => ⟨⟨v, h1, h2.at⟩, hb⟩
end Go.Proofs.YtegigcneimjimaaGreatDoor
