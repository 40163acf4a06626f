/- chancerybook: lists of texts copied, lent, compared. -/
import Derived.Test.YtehpdodjncabkaaDoorLwA
import Derived.Test.YtehpdodjncabkaaDoorLdV
namespace Go.Proofs.YtehpdodjncabkaaDoor
open Go.RowKit Go.Lib

/-- append of nothing: a nil source, whatever its capacity says. -/
theorem wpList_append_voidB {P : Program} {w : World} {ops : Array Oper} {rest : List Oper} {o : Oper} {a : Act} {Q : Exit → Act → World → Prop} (hgd : o.guard = none) (s x : Operand) (t : TypeId)
    (ho : o.op = .call { callee := .builtin .append, args := #[s, x], argTypes := #[t, t] })
    (base : Nat) (e : TypeId) (i : TypeInfo) (size : Nat) (ht : P.underlying t = some (.slice e)) (hi : P.info? e = some i)
    (v : Value) (n : Nat) (xs : List Value) (hs : a.eval s = v) (hown : w.ownsRow base e size v n xs) (c : Nat) (hx : a.eval x = .slice none 0 c)
    (h : wpList P ops Q rest (a.put o.dst v) w) : wpList P ops Q (o :: rest) a w := by
  refine wpList_plain hgd fun K hK => ?_
  have hrun : (Builtin.append_ #[t, t] o.type #[v, .slice none 0 c]).run P w = .ok v w := by
    rcases hown.2 with ⟨rfl, rfl⟩ | ⟨g, cap, cur, rfl, _, _, hnc, _⟩
    · simp [Builtin.append_, run_underlying ht, sizeOf, typeInfo, hi, Builtin.lenOf, Builtin.firstCells]
    · simp [Builtin.append_, run_underlying ht, sizeOf, typeInfo, hi, Builtin.lenOf, Builtin.firstCells, hnc, storeCells]
  unfold Oper.wp
  simp [execOp, ho, resolve, invoke, builtin, hs, hx, hrun, Result.andThen]
  exact hK _ _ h
theorem sV_one (ls : List (List UInt8)) : ∀ u ∈ sV ls, u.oneCell' = true := by
  intro u hu
  simp only [sV, List.mem_map] at hu
  obtain ⟨x, _, rfl⟩ := hu
  rfl
theorem StrsAt.cells {w : World} {ad : Addr} {n cap : Nat} {l : List (List UInt8)} (h : StrsAt w (.slice (some ad) n cap) l) : ∀ j u, (sV l)[j]? = some u → w.cell? (ad.add j) = some u := by
  intro j u hj
  obtain ⟨a, c, e, _, hr⟩ := h
  have h0 : l ≠ [] := by rintro rfl; simp [sV] at hj
  obtain ⟨g, o, ha, hcell⟩ := hr h0
  simp only [Value.slice.injEq] at e
  obtain ⟨e1, _, _⟩ := e
  rw [ha] at e1
  cases e1
  simp only [sV, List.getElem?_map, Option.map_eq_some_iff] at hj
  obtain ⟨y, hy, rfl⟩ := hj
  rw [Addr.add_lit]
  exact hcell j y hy
theorem strs_own {B : Nat} {w : World} {v : Value} {l : List (List UInt8)} {n : Nat} {xs : List Value} (hn : n = l.length) (h : w.ownsRow B 9 1 v n xs) (hx : ∀ (j : Nat) (y : List UInt8), l[j]? = some y → xs[j]? = some (.string ⟨y.toArray⟩)) : StrsAt w v l := by
  subst hn
  rcases id h.2 with ⟨rfl, h0⟩ | ⟨g, cap, cur, rfl, hb, hg, hc, _, _, ht⟩
  · have : l = [] := List.length_eq_zero_iff.1 h0
    subst this
    exact ⟨none, 0, rfl, by simp, fun h => absurd rfl h⟩
  · refine ⟨some ⟨g, 0, none⟩, cap, rfl, hc, fun _ => ⟨g, 0, rfl, fun j y hj => ?_⟩⟩
    rw [Nat.zero_add]
    exact (own_cell h (hx j y hj)).1
set_option maxRecDepth 100000 in
set_option maxHeartbeats 2000000 in
theorem copyTexts_any (v : Value) (l : List (List UInt8)) (w : World) (h : StrsAt w v l) (hl : l.length ≤ 1000000000) :
    Calls Tryd.prog 41 #[v] w fun e w' => (∃ v', e = .returned v' ∧ w'.ownsRow w.heap.size 9 1 v' l.length (sV l)) ∧ Below w.heap.size w w' := by
  obtain ⟨i0, hi0, hz0, hz1, hz2⟩ := info_parts Tryd.infoString
  have H := Lib.hid h
  obtain ⟨a, cap, rfl, hc, hr⟩ := h
  cases a with
  | none =>
    have hnil : l = [] := by
      rcases Classical.em (l = []) with h | h
      · exact h
      · obtain ⟨g, o, ha, _⟩ := hr h; cases ha
    subst hnil
    go_enter Tryd.func41, Tryd.ntmps41
    go_wp2_with (at_builtin; refine wpList_append_voidB rfl (.const (.slice none 0 0)) (.tmp 3) 29 rfl w.heap.size 9 i0 1 Tryd.underlying29 hi0 (.slice none 0 0) 0 [] rfl (World.ownsRow_nil _ _ _ _) cap rfl ?_)
    go_ret
    exact ⟨⟨_, rfl, World.ownsRow_nil _ _ _ _⟩, Below.refl _ _⟩
  | some ad =>
    have hcl := H.out.cells
    have HC := Lib.hid hcl
    clear hr hcl
    go_enter Tryd.func41, Tryd.ntmps41
    go_wp2_with (at_builtin; refine wpList_append_own _ rfl (.const (.slice none 0 0)) (.tmp 3) 29 rfl w.heap.size 9 i0 (.string ⟨#[]⟩) 1 16 Tryd.underlying29 hi0 hz0 hz1 hz2 rfl (by decide) (.slice none 0 0) 0 [] rfl (World.ownsRow_nil _ _ _ _) ad l.length cap (sV l) rfl (by rw [sV_length, Nat.mul_one]) HC.out (sV_one l) ?d3 ?d4 (Nat.le_refl _) ?_)
    case d3 => unfold maxLen; omega
    case d4 => omega
    intro v' w7 ho7 hg7 _
    go_wp2_with fail
    go_ret
    exact ⟨⟨_, rfl, ho7⟩, (Below.refl w.heap.size w).grown hg7 (Nat.le_refl _) (fun b hb => by cases hb)⟩
set_option maxRecDepth 100000 in
set_option maxHeartbeats 4000000 in
theorem STexts_any (v u : Value) (r q : List (List UInt8)) (w : World) (h1 : StrsAt w v r) (h2 : StrsAt w u q) (hl : r.length ≤ 140737488355328) (_hl2 : q.length ≤ 140737488355328) :
    Calls Tryd.prog 56 #[v, u] w fun e w' => e = .returned (.bool (decide (r = q))) ∧ ∃ m, w' = w.drewN m := by
  have H1 := Lib.hid h1
  have H2 := Lib.hid h2
  obtain ⟨a1, c1, rfl, hc1, hx1⟩ := h1
  obtain ⟨a2, c2, rfl, hc2, hx2⟩ := h2
  clear hx1 hx2
  by_cases hlen : r.length = q.length
  · have hq : ((r.length : Int) == (q.length : Int)) = true := by rw [hlen]; simp
    obtain ⟨ANS, hA⟩ : ∃ ANS, decide (r = q) = ANS := ⟨_, rfl⟩
    rw [hA]
    have HA := Lib.hid hA
    clear hA
    go_enter Tryd.func56, Tryd.ntmps56
    go_wp2_with fail
    go_loopw [5] (fun i wr => ∃ k m : Nat, i = .int .i64 (k : Int) ∧ k ≤ r.length ∧ wr = w.drewN m ∧ decide (r.drop k = q.drop k) = ANS) (fun i _ => r.length - (RowKit.intOf i).toNat)
    case atStart => exact ⟨0, 0, rfl, by omega, rfl, HA.out⟩
    case round =>
      obtain ⟨k, m, rfl, hk, rfl, hans⟩ := hrel
      clear HA
      by_cases hkl : k < r.length
      · have hkl2 : k < q.length := by omega
        obtain ⟨x, hx⟩ : ∃ x, r[k] = x := ⟨_, rfl⟩
        obtain ⟨y, hy⟩ : ∃ y, q[k] = y := ⟨_, rfl⟩
        have hxk : r[k]? = some x := by rw [List.getElem?_eq_getElem hkl, hx]
        have hyk : q[k]? = some y := by rw [List.getElem?_eq_getElem hkl2, hy]
        have hr0 : r ≠ [] := by intro e; rw [e] at hkl; simp at hkl
        have hq0 : q ≠ [] := by intro e; rw [e] at hkl2; simp at hkl2
        rw [List.drop_eq_getElem_cons hkl, hx, List.drop_eq_getElem_cons hkl2, hy] at hans
        obtain ⟨a3, cap3, e3, _, hcell⟩ := H1.out
        obtain ⟨g, o, ha, hcc⟩ := hcell hr0
        obtain ⟨a4, cap4, e4, _, hcell4⟩ := H2.out
        obtain ⟨g', o', ha', hcc'⟩ := hcell4 hq0
        cases e3
        cases e4
        subst ha ha'
        have p1 := hcc k x hxk
        have p2 := hcc' k y hyk
        clear hcc hcell hcc' hcell4 hxk hyk hx hy
        have i1 : (k : Int) < (r.length : Int) := by omega
        have i2 : (k : Int) < (q.length : Int) := by omega
        have i3 : decide ((k : Int) < (r.length : Int)) = true := decide_eq_true i1
        by_cases hxy : x = y
        · subst hxy
          have hans2 : decide (r.drop (k + 1) = q.drop (k + 1)) = ANS := by rw [← hans]; exact decide_eq_decide.2 (by simp)
          have HS := Lib.hid hans2
          clear hans hans2
          go_wp2
          go_quiet (fail)
          go_wp2
          exact ⟨⟨k + 1, _, by go_num, by omega, rfl, HS.out⟩, by simp [RowKit.intOf]; omega⟩
        · have e : ANS = false := by rw [← hans]; exact decide_eq_false (fun e => hxy (List.cons.inj e).1)
          subst e
          clear hans
          have b1 : (x == y) = false := by simpa using hxy
          clear hxy
          go_wp2
          go_quiet (fail)
          go_wp2
          go_ret
          exact ⟨rfl, _, World.drewN_drewN _ _ _⟩
      · obtain rfl : k = r.length := by omega
        have e : ANS = true := by rw [← hans, List.drop_of_length_le (Nat.le_refl _), hlen, List.drop_of_length_le (Nat.le_refl _)]; rfl
        subst e
        go_wp2_with fail
        go_ret
        first | exact ⟨rfl, _, rfl⟩ | exact ⟨rfl, _, World.drewN_drewN _ _ _⟩
  · have hq : ((r.length : Int) == (q.length : Int)) = false := by simpa using (fun e => hlen (by omega))
    have e : decide (r = q) = false := decide_eq_false (fun e => hlen (by rw [e]))
    rw [e]
    go_enter Tryd.func56, Tryd.ntmps56
    go_wp2_with fail
    go_ret
    exact ⟨rfl, 0, rfl⟩
def markS : List (List UInt8) := [[109, 97, 114, 107], [77, 97, 114, 107]]
/-- A list of texts that was lent: marks stand behind it. -/
def LentS (B : Nat) (w : World) (v : Value) (l : List (List UInt8)) : Prop :=
  ∃ g cap, v = .slice (some ⟨g, 0, none⟩) l.length cap ∧ w.ownsRow B 9 1 (.slice (some ⟨g, 0, none⟩) (l.length + 2) cap) (l.length + 2) (sV (l ++ markS))
theorem LentS.strs {B : Nat} {w : World} {v : Value} {l : List (List UInt8)} (h : LentS B w v l) : StrsAt w v l := by
  obtain ⟨g, cap, rfl, ho⟩ := h
  rcases id ho.2 with ⟨h1, _⟩ | ⟨g', cap', cur, hv, hb, hg, hc, _, _, ht⟩
  · cases h1
  · cases hv
    refine ⟨some ⟨g, 0, none⟩, cap, rfl, by omega, fun _ => ⟨g, 0, rfl, fun j y hj => ?_⟩⟩
    rw [Nat.zero_add]
    have hjl := (List.getElem?_eq_some_iff.1 hj).1
    exact (own_cell ho (by simp only [sV, List.getElem?_map]; rw [List.getElem?_append_left hjl, hj]; rfl)).1
set_option maxRecDepth 100000 in
set_option maxHeartbeats 2000000 in
theorem LentTexts_any (v : Value) (l : List (List UInt8)) (w : World) (h : StrsAt w v l) (hl : l.length ≤ 1000000000) :
    Calls Tryd.prog 19 #[v] w fun e w' => (∃ v', e = .returned v' ∧ LentS w.heap.size w' v' l) ∧ Below w.heap.size w w' := by
  obtain ⟨i0, hi0, hz0, hz1, hz2⟩ := info_parts Tryd.infoString
  have H := Lib.hid h
  obtain ⟨a, cap, rfl, hc, hr⟩ := h
  have fin : ∀ (v1 : Value) (w1 : World), w1.ownsRow w.heap.size 9 1 v1 l.length (sV l) → Below w.heap.size w w1 → True := fun _ _ _ _ => trivial
  cases a with
  | none =>
    have hnil : l = [] := by
      rcases Classical.em (l = []) with h | h
      · exact h
      · obtain ⟨g, o, ha, _⟩ := hr h; cases ha
    subst hnil
    go_enter Tryd.func19, Tryd.ntmps19
    go_wp2_with (first | (at_builtin; refine wpList_append_voidB rfl (.const (.slice none 0 0)) (.tmp 4) 29 rfl w.heap.size 9 i0 1 Tryd.underlying29 hi0 (.slice none 0 0) 0 [] rfl (World.ownsRow_nil _ _ _ _) cap rfl ?_) | (at_builtin; refine wpList_append_lies _ rfl (.tmp 5) (.tmp 6) 29 rfl w.heap.size 9 i0 (.string ⟨#[]⟩) 1 16 Tryd.underlying29 hi0 hz0 hz1 hz2 rfl (by decide) (.slice none 0 0) 0 [] rfl (World.ownsRow_nil _ _ _ _) ⟨w.heap.size, 0, none⟩ 2 2 (sV markS) rfl rfl (World.news_of_block (alloc_at _ _ _ rfl)) (sV_one _) (by decide) (by decide) (by decide) (by simp) (w.heap.size + 1) (by simp) ?_; intro g7 cap7 w7 ho7 hg7 hat7 hlt7))
    go_ret
    refine ⟨⟨_, rfl, g7, cap7, rfl, by simpa using ho7⟩, ((Below.refl w.heap.size w).alloc (Nat.le_refl _) _).grown hg7 (by simp) (fun b hb => by cases hb)⟩
  | some ad =>
    have hcl := H.out.cells
    have HC := Lib.hid hcl
    clear hr hcl fin
    go_enter Tryd.func19, Tryd.ntmps19
    go_wp2_with (at_builtin; refine wpList_append_own _ rfl (.const (.slice none 0 0)) (.tmp 4) 29 rfl w.heap.size 9 i0 (.string ⟨#[]⟩) 1 16 Tryd.underlying29 hi0 hz0 hz1 hz2 rfl (by decide) (.slice none 0 0) 0 [] rfl (World.ownsRow_nil _ _ _ _) ad l.length cap (sV l) rfl (by rw [sV_length, Nat.mul_one]) HC.out (sV_one l) ?d3 ?d4 (Nat.le_refl _) ?_)
    case d3 => unfold maxLen; omega
    case d4 => omega
    intro v' w7 ho7 hg7 _
    have hb7 : Below w.heap.size w w7 := (Below.refl w.heap.size w).grown hg7 (Nat.le_refl _) (fun b hb => by cases hb)
    have hs7 := hb7.size
    have hlt7 := ho7.lt
    go_wp2_with (at_builtin; refine wpList_append_lies _ rfl (.tmp 5) (.tmp 6) 29 rfl w.heap.size 9 i0 (.string ⟨#[]⟩) 1 16 Tryd.underlying29 hi0 hz0 hz1 hz2 rfl (by decide) v' l.length (sV l) rfl (ho7.alloc _) ⟨w7.heap.size, 0, none⟩ 2 2 (sV markS) rfl rfl (World.news_of_block (alloc_at _ _ _ rfl)) (sV_one _) (by decide) ?d5 ?d6 ?d7 (w7.heap.size + 1) (by simp) ?_)
    case d5 => unfold maxLen; omega
    case d6 => omega
    case d7 => simp; omega
    intro g8 cap8 w8 ho8 hg8 hat8 hlt8
    have hcap : l.length + 2 ≤ cap8 := by
      rcases id ho8.2 with ⟨h1, _⟩ | ⟨g', cap', cur, hv, _, _, hc', _⟩
      · cases h1
      · cases hv; exact hc'
    go_wp2_with fail
    go_ret
    refine ⟨⟨_, rfl, g8, cap8, rfl, by rw [sV_append]; exact ho8⟩, (hb7.alloc hs7 _).grown hg8 (by simp; omega) (fun b hb => (hlt7 b hb).1)⟩
theorem LentS.form {B : Nat} {w : World} {v : Value} {l : List (List UInt8)} (h : LentS B w v l) : ∃ g cap, v = .slice (some ⟨g, 0, none⟩) l.length cap ∧ l.length + 2 ≤ cap ∧ w.cell? ⟨g, l.length, none⟩ = some (.string ⟨#[109, 97, 114, 107]⟩) ∧ w.cell? ⟨g, l.length + 1, none⟩ = some (.string ⟨#[77, 97, 114, 107]⟩) := by
  obtain ⟨g, cap, rfl, ho⟩ := h
  have hcap : l.length + 2 ≤ cap := by
    rcases id ho.2 with ⟨h1, _⟩ | ⟨g', cap', cur, hv, _, _, hc', _⟩
    · cases h1
    · cases hv; exact hc'
  refine ⟨g, cap, rfl, hcap, (own_cell ho ?_).1, (own_cell ho ?_).1⟩
  · rw [sV_append, List.getElem?_append_right (by rw [sV_length]; omega), sV_length, Nat.sub_self]
    rfl
  · rw [sV_append, List.getElem?_append_right (by rw [sV_length]; omega), sV_length, show l.length + 1 - l.length = 1 by omega]
    rfl
set_option maxRecDepth 100000 in
set_option maxHeartbeats 2000000 in
theorem StaysTexts_any (B : Nat) (v u : Value) (l r : List (List UInt8)) (w : World) (h : LentS B w v l) (h2 : StrsAt w u r) (hl : l.length ≤ 1000000000) (hr : r.length ≤ 140737488355328) :
    Calls Tryd.prog 33 #[v, u] w fun e w' => e = .returned (.bool (decide (l = r))) ∧ ∃ m, w' = w.drewN m := by
  have ks := STexts_any v u l r w h.strs h2 (Nat.le_trans hl (by decide)) hr
  obtain ⟨g, cap, rfl, hcap, m1, m2⟩ := h.form
  obtain ⟨b, hb⟩ : ∃ b, decide (l = r) = b := ⟨_, rfl⟩
  rw [hb] at ks ⊢
  obtain ⟨a2, c2, rfl, _, _⟩ := h2
  clear hb h
  cases b
  · go_enter Tryd.func33, Tryd.ntmps33
    go_wp2_with fail
    refine Calls.mono (show Calls _ _ _ _ _ from ks) ?_
    rintro e w3 ⟨rfl, m, rfl⟩
    go_wp2_with fail
    go_ret
    exact ⟨rfl, m, rfl⟩
  · go_enter Tryd.func33, Tryd.ntmps33
    go_wp2_with fail
    refine Calls.mono (show Calls _ _ _ _ _ from ks) ?_
    rintro e w3 ⟨rfl, m, rfl⟩
    go_wp2_with fail
    go_ret
    exact ⟨rfl, m, rfl⟩
end Go.Proofs.YtehpdodjncabkaaDoor
