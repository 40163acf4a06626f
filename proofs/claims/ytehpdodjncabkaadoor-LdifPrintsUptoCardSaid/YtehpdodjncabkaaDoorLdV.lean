/- ldif: attributes that a record's reader collects, each with a row of its own. -/
import Derived.Test.YtehpdodjncabkaaDoorLdT
namespace Go.Proofs.YtehpdodjncabkaaDoor
open Go.RowKit Go.Lib

theorem Tryd.infoAttr : (Tryd.prog.info? 51).map (fun i => (i.zero, i.size, i.bytes)) = some (some (.agg #[.string ⟨#[]⟩, .slice none 0 0]), 2, 40) := by kernel_rfl
def flatA : List At → List Value → List Value
  | m :: ms, u :: us => .string ⟨m.1.toArray⟩ :: u :: flatA ms us
  | _, _ => []
theorem flatA_length : ∀ (ms : List At) (us : List Value), us.length = ms.length → (flatA ms us).length = ms.length * 2
  | [], _, _ => by simp [flatA]
  | m :: ms, [], h => by simp at h
  | m :: ms, u :: us, h => by
    have := flatA_length ms us (by simpa using h)
    simp only [flatA, List.length_cons, this]
    omega
theorem flatA_snoc : ∀ (ms : List At) (us : List Value) (m : At) (u : Value), us.length = ms.length → flatA (ms ++ [m]) (us ++ [u]) = flatA ms us ++ [.string ⟨m.1.toArray⟩, u]
  | [], [], m, u, _ => rfl
  | [], _ :: _, _, _, h => by simp at h
  | _ :: _, [], _, _, h => by simp at h
  | a :: ms, b :: us, m, u, h => by
    have := flatA_snoc ms us m u (by simpa using h)
    simp only [List.cons_append, flatA, this]
theorem flatA_get : ∀ (ms : List At) (us : List Value) (j : Nat) (m : At) (u : Value), ms[j]? = some m → us[j]? = some u → (flatA ms us)[j * 2]? = some (.string ⟨m.1.toArray⟩) ∧ (flatA ms us)[j * 2 + 1]? = some u
  | [], _, _, _, _, h, _ => by simp at h
  | _ :: _, [], _, _, _, _, h => by simp at h
  | a :: ms, b :: us, 0, m, u, h, k => by
    simp only [List.getElem?_cons_zero, Option.some.injEq] at h k
    subst h k
    exact ⟨rfl, rfl⟩
  | a :: ms, b :: us, j + 1, m, u, h, k => by
    have := flatA_get ms us j m u (by simpa using h) (by simpa using k)
    rw [show (j + 1) * 2 = j * 2 + 2 by omega]
    exact this
theorem own_set {w : World} {base e size n g cap i : Nat} {xs : List Value} {x : Value} (h : w.ownsRow base e size (.slice (some ⟨g, 0, none⟩) n cap) n xs) (_hi : i < xs.length) :
    (w.setCell ⟨g, i, none⟩ x).ownsRow base e size (.slice (some ⟨g, 0, none⟩) n cap) n (xs.set i x) := by
  refine ⟨by rw [List.length_set]; exact h.1, ?_⟩
  rcases h.2 with ⟨h1, _⟩ | ⟨g', cap', cur, hv, hb, hg, hc, hm, hs, ht⟩
  · cases h1
  · cases hv
    refine .inr ⟨g, cap, cur.setIfInBounds i x, rfl, hb, ?_, hc, hm, by simpa using hs, ?_⟩
    · simp [World.setCell, Array.getElem?_modify, hg]
    · rw [Array.toList_setIfInBounds, List.take_set, ht]
theorem own_cell {w : World} {base e size n g cap : Nat} {xs : List Value} (h : w.ownsRow base e size (.slice (some ⟨g, 0, none⟩) n cap) n xs) {i : Nat} {x : Value} (hi : xs[i]? = some x) : w.cell? ⟨g, i, none⟩ = some x ∧ w.frozen? ⟨g, i, none⟩ = false := by
  have hadd : (⟨g, 0, none⟩ : Addr).add i = ⟨g, i, none⟩ := by unfold Addr.add; split <;> simp_all
  have k1 := h.cells (g := g) rfl _ _ hi
  rw [hadd] at k1
  refine ⟨k1, ?_⟩
  rcases h.2 with ⟨h1, _⟩ | ⟨g', cap', cur, hv, hb, hg, _⟩
  · cases h1
  · cases hv
    exact Lib.frozen_of_heap hg i
def Dist (us : List Value) : Prop := ∀ (i j : Nat) (x y : Value), us[i]? = some x → us[j]? = some y → i ≠ j → ∀ g, x.ownBlock = some g → y.ownBlock ≠ some g
structure AttS (R N : Nat) (w : World) (a b c : List UInt8) (acc : List At) (us : List Value) (vA : Value) (wr : World) : Prop where
  hc : wr.heap[N + 1]? = some (.cells #[.string ⟨a.toArray⟩, .string ⟨b.toArray⟩, .string ⟨c.toArray⟩, .int .i64 0, vA, .slice none 0 0, .string ⟨#[]⟩, .string ⟨#[]⟩, .bool false, .bool false] 25 (0, 0))
  hn : wr.heap[N]? = some (.cells #[.string ⟨#[]⟩, .string ⟨#[]⟩, .string ⟨#[]⟩, .int .i64 0, .slice none 0 0, .slice none 0 0, .string ⟨#[]⟩, .string ⟨#[]⟩, .bool false, .bool false] 25 (0, 0))
  hx : BelowX R N w wr
  ho : wr.ownsRow (N + 2) 51 2 vA acc.length (flatA acc us)
  hl : us.length = acc.length
  hs : ∀ (j : Nat) (x : At) (u : Value), acc[j]? = some x → us[j]? = some u → wr.ownsRow (N + 2) 9 1 u x.2.length (sV x.2)
  hd : Dist us
/-- From a state to one in which all below stays, but for the reader. -/
theorem AttS.kept {R N : Nat} {w : World} {a b c : List UInt8} {acc : List At} {us : List Value} {vA : Value} {wr wq : World} (h : AttS R N w a b c acc us vA wr) (hR : R < N) (hg : wr.grownBy wq (some R)) : AttS R N w a b c acc us vA wq :=
  have hs : N + 1 < wr.heap.size := (Array.getElem?_eq_some_iff.1 h.hc).1
  ⟨(hg.block _ hs (fun e => by injection e with e; omega)).trans h.hc, (hg.block _ (by omega) (fun e => by injection e with e; omega)).trans h.hn,
    h.hx.trans (BelowX.of_grown hg (by omega) (fun k e => .inl (by cases e; rfl))),
    h.ho.kept hg (.inr (fun e => by have := (h.ho.lt R e).1; omega)), h.hl,
    fun j x u h1 h2 => (h.hs j x u h1 h2).kept hg (.inr (fun e => by have := ((h.hs j x u h1 h2).lt R e).1; omega)), h.hd⟩
theorem attrs_own {N : Nat} {w : World} {v : Value} {acc : List At} {us : List Value} (h : w.ownsRow N 51 2 v acc.length (flatA acc us)) (hl : us.length = acc.length)
    (hs : ∀ (j : Nat) (x : At) (u : Value), acc[j]? = some x → us[j]? = some u → w.ownsRow N 9 1 u x.2.length (sV x.2)) : AttrsAt w v acc := by
  rcases id h.2 with ⟨rfl, h0⟩ | ⟨g, cap, cur, rfl, hb, hg, hc, _, _, ht⟩
  · have : acc = [] := List.length_eq_zero_iff.1 h0
    subst this
    exact ⟨none, 0, rfl, by simp, fun h => absurd rfl h⟩
  · refine ⟨some ⟨g, 0, none⟩, cap, rfl, hc, fun _ => ⟨g, 0, rfl, fun j x hj => ?_⟩⟩
    obtain ⟨u, hu⟩ : ∃ u, us[j]? = some u := ⟨us[j]'(by rw [hl]; exact (List.getElem?_eq_some_iff.1 hj).1), List.getElem?_eq_getElem _⟩
    obtain ⟨g1, g2⟩ := flatA_get acc us j x u hj hu
    obtain ⟨k1, _⟩ := own_cell h g1
    obtain ⟨k2, _⟩ := own_cell h g2
    refine ⟨by rw [Nat.zero_add]; exact k1, u, by rw [Nat.zero_add]; exact k2, ?_⟩
    have hu2 := hs j x u hj hu
    rcases id hu2.2 with ⟨rfl, h0⟩ | ⟨gu, cu, curu, rfl, _, hgu, hcu, _, _, htu⟩
    · have : x.2 = [] := List.length_eq_zero_iff.1 h0
      rw [this]
      exact ⟨none, 0, rfl, by simp, fun h => absurd rfl h⟩
    · refine ⟨some ⟨gu, 0, none⟩, cu, rfl, hcu, fun _ => ⟨gu, 0, rfl, fun i y hi => ?_⟩⟩
      rw [Nat.zero_add]
      exact (own_cell hu2 (by simp [sV, hi])).1
theorem flatA_set : ∀ (ms : List At) (us : List Value) (m : At) (u x : Value), us.length = ms.length → (flatA (ms ++ [m]) (us ++ [u])).set (ms.length * 2 + 1) x = flatA (ms ++ [m]) (us ++ [x]) := by
  intro ms us m u x h
  rw [flatA_snoc ms us m u h, flatA_snoc ms us m x h, List.set_append_right _ _ (by rw [flatA_length ms us h]; omega), flatA_length ms us h]
  simp
theorem flatA_last : ∀ (init : List At) (typ : List UInt8) (vs vs' : List (List UInt8)) (us : List Value), flatA (init ++ [(typ, vs)]) us = flatA (init ++ [(typ, vs')]) us
  | [], _, _, _, [] => rfl
  | [], _, _, _, _ :: _ => rfl
  | _ :: _, _, _, _, [] => rfl
  | x :: xs, typ, vs, vs', u :: us => by
    have := flatA_last xs typ vs vs' us
    simp only [List.cons_append, flatA, this]
theorem own_or {u v : Value} (h : ∀ g, u.ownBlock = some g → v.ownBlock ≠ some g) : u.ownBlock = none ∨ u.ownBlock ≠ v.ownBlock := by
  cases hu : u.ownBlock with
  | none => exact .inl rfl
  | some g => exact .inr (fun e => h g hu e.symm)
theorem set_kept {w : World} {b i : Nat} {x : Value} {cs : Array Value} {t : TypeId} {base e size n : Nat} {v : Value} {xs : List Value} (h : w.ownsRow base e size v n xs) (hb : w.heap[b]? = some (.cells cs t (0, 0))) (ht : e ≠ t) : (w.setCell ⟨b, i, none⟩ x).ownsRow base e size v n xs :=
  h.kept (grown_set w b i x) (.inr (own_ne h hb ht))
theorem setCell_four {w : World} {C : Nat} {x0 x1 x2 x3 x4 x5 x6 x7 x8 x9 u : Value} {t : TypeId} (h : w.heap[C]? = some (.cells #[x0, x1, x2, x3, x4, x5, x6, x7, x8, x9] t (0, 0))) : (w.setCell ⟨C, 4, none⟩ u).heap[C]? = some (.cells #[x0, x1, x2, x3, u, x5, x6, x7, x8, x9] t (0, 0)) := by
  simp [World.setCell, Array.getElem?_modify, h]
theorem att_new {R B N : Nat} {w : World} {a b c typ : List UInt8} {acc : List At} {us : List Value} {vA : Value} {w2 w3 w4 : World} {t : List Pr} {o : Obj} {g cap : Nat} (h : AttS R N w a b c acc us vA w2) (hRd : RdAt w2 R B t) (hB : B ≤ N) (hR : R < N) (hb : Below w2.heap.size w2 w3)
    (hg : (w3.alloc o).grownBy w4 vA.ownBlock) (ho : w4.ownsRow (N + 2) 51 2 (.slice (some ⟨g, 0, none⟩) (acc.length + 1) cap) (acc.length + 1) (flatA acc us ++ [.string ⟨typ.toArray⟩, .slice none 0 0])) :
    AttS R N w a b c (acc ++ [(typ, [])]) (us ++ [.slice none 0 0]) (.slice (some ⟨g, 0, none⟩) (acc.length + 1) cap) (w4.setCell ⟨N + 1, 4, none⟩ (.slice (some ⟨g, 0, none⟩) (acc.length + 1) cap)) ∧
    RdAt (w4.setCell ⟨N + 1, 4, none⟩ (.slice (some ⟨g, 0, none⟩) (acc.length + 1) cap)) R B t := by
  have hsz : N + 1 < w2.heap.size := (Array.getElem?_eq_some_iff.1 h.hc).1
  have hs3 := hb.size
  have hkeep : ∀ j, j < w2.heap.size → some j ≠ vA.ownBlock → w4.heap[j]? = w2.heap[j]? := fun j hj hne => ((hg.block j (by simp; omega) hne).trans (Lib.alloc_old _ _ _ (by omega))).trans (hb.block j hj)
  have hne1 : some (N + 1) ≠ vA.ownBlock := fun e => by have := (h.ho.lt (N + 1) e.symm).1; omega
  have hne0 : some N ≠ vA.ownBlock := fun e => by have := (h.ho.lt N e.symm).1; omega
  have hc4 := (hkeep (N + 1) hsz hne1).trans h.hc
  have hn4 := (hkeep N (by omega) hne0).trans h.hn
  have hx4 : BelowX R N w w4 := ((h.hx.trans (BelowX.of_below (hb.mono (by omega)))).trans (BelowX.of_below ((Below.refl _ _).alloc (by omega) _))).trans (BelowX.of_grown hg (by simp; omega) (fun k hk => .inr (by have := (h.ho.lt k hk).1; omega)))
  have hba : Below (N + 1) w4 (w4.setCell ⟨N + 1, 4, none⟩ (.slice (some ⟨g, 0, none⟩) (acc.length + 1) cap)) := (Below.refl _ _).setCell (p := ⟨N + 1, 4, none⟩) (Nat.le_refl _) _
  have hrow : ∀ (base e size n : Nat) (v : Value) (xs : List Value), w2.ownsRow base e size v n xs → e = 9 → w4.ownsRow base e size v n xs := by
    intro base e size n v xs hv he
    have h3 := own_below hv hb
    refine (h3.alloc o).kept hg (own_or (fun k hk hk2 => ?_))
    rcases id h.ho.2 with ⟨hvn, _⟩ | ⟨gA, capA, cur, hvA, _, hgA, _⟩
    · rw [hvn] at hk2; cases hk2
    · rw [hvA] at hk2
      simp only [Value.ownBlock, Option.some.injEq] at hk2
      subst hk2
      exact own_ne hv hgA (by rw [he]; decide) hk
  refine ⟨⟨setCell_four hc4, (hba.block N (by omega)).trans hn4, hx4.trans (BelowX.of_below (hba.mono (by omega))), ?_, by simp [h.hl], ?_, ?_⟩, ?_⟩
  · rw [flatA_snoc _ _ _ _ h.hl, List.length_append]
    exact ho.kept (grown_set _ _ _ _) (.inr (fun e => by have := (ho.lt (N + 1) e).1; omega))
  · intro j x u h1 h2
    by_cases hj : j < acc.length
    · rw [List.getElem?_append_left hj] at h1
      rw [List.getElem?_append_left (by rw [h.hl]; exact hj)] at h2
      have h4 := hrow _ _ _ _ _ _ (h.hs j x u h1 h2) rfl
      exact set_kept h4 hc4 (by decide)
    · have hj2 : j = acc.length := by
        have := (List.getElem?_eq_some_iff.1 h1).1
        simp at this
        omega
      subst hj2
      rw [List.getElem?_append_right (Nat.le_refl _)] at h1
      rw [List.getElem?_append_right (by rw [h.hl]; exact Nat.le_refl _)] at h2
      simp at h1
      simp [h.hl] at h2
      subst h1 h2
      exact World.ownsRow_nil _ _ _ _
  · intro i j x y h1 h2 hij k hk
    by_cases hi : i < acc.length
    · rw [List.getElem?_append_left (by rw [h.hl]; exact hi)] at h1
      by_cases hj : j < acc.length
      · rw [List.getElem?_append_left (by rw [h.hl]; exact hj)] at h2
        exact h.hd i j x y h1 h2 hij k hk
      · rw [List.getElem?_append_right (by rw [h.hl]; omega)] at h2
        have : y = .slice none 0 0 := by
          have hm := List.mem_of_getElem? h2
          simpa using hm
        subst this
        simp [Value.ownBlock]
    · rw [List.getElem?_append_right (by rw [h.hl]; omega)] at h1
      have : x = .slice none 0 0 := by
        have hm := List.mem_of_getElem? h1
        simpa using hm
      subst this
      cases hk
  · refine hRd.kept (fun j hj => ?_)
    rw [hba.block j (by omega)]
    refine hkeep j (by omega) (fun e => ?_)
    have := (h.ho.lt j e.symm).1
    omega
theorem att_put {R B N : Nat} {w : World} {a b c typ v : List UInt8} {init : List At} {usI : List Value} {vs : List (List UInt8)} {u : Value} {w2 w3 : World} {t : List Pr} {o : Obj} {gA capA g5 cap5 : Nat} (hul : usI.length = init.length) (h : AttS R N w a b c (init ++ [(typ, vs)]) (usI ++ [u]) (.slice (some ⟨gA, 0, none⟩) (init.length + 1) capA) w2)
    (hRd : RdAt w2 R B t) (hB : B ≤ N) (hR : R < N) (hg : (w2.alloc o).grownBy w3 u.ownBlock) (ho : w3.ownsRow (N + 2) 9 1 (.slice (some ⟨g5, 0, none⟩) (vs.length + 1) cap5) (vs.length + 1) (sV vs ++ [.string ⟨v.toArray⟩])) (hat : u.ownBlock = some g5 ∨ g5 = w2.heap.size + 1) :
    AttS R N w a b c (init ++ [(typ, vs ++ [v])]) (usI ++ [.slice (some ⟨g5, 0, none⟩) (vs.length + 1) cap5]) (.slice (some ⟨gA, 0, none⟩) (init.length + 1) capA) (w3.setCell ⟨gA, init.length * 2 + 1, none⟩ (.slice (some ⟨g5, 0, none⟩) (vs.length + 1) cap5)) ∧
    RdAt (w3.setCell ⟨gA, init.length * 2 + 1, none⟩ (.slice (some ⟨g5, 0, none⟩) (vs.length + 1) cap5)) R B t := by
  have hsz : N + 1 < w2.heap.size := (Array.getElem?_eq_some_iff.1 h.hc).1
  have hho := h.ho
  rw [List.length_append] at hho
  have hlast : w2.ownsRow (N + 2) 9 1 u vs.length (sV vs) := h.hs init.length (typ, vs) u (by simp) (by rw [← hul]; simp)
  have hgA := (hho.lt gA rfl).1
  have hgAB : ∃ cur, w2.heap[gA]? = some (.cells cur 51 (0, 0)) := by
    rcases id hho.2 with ⟨h1, _⟩ | ⟨g', cap', cur, hv, _, hg', _⟩
    · cases h1
    · cases hv
      exact ⟨cur, hg'⟩
  obtain ⟨curA, hcurA⟩ := hgAB
  have hkeep : ∀ j, j < w2.heap.size → some j ≠ u.ownBlock → w3.heap[j]? = w2.heap[j]? := fun j hj hne => (hg.block j (by simp; omega) hne).trans (Lib.alloc_old _ _ _ (by omega))
  have hneU : ∀ j, j < N + 2 → some j ≠ u.ownBlock := fun j hj e => by have := (hlast.lt j e.symm).1; omega
  have hneA : some gA ≠ u.ownBlock := fun e => own_ne hlast hcurA (by decide) e.symm
  have hlA : gA < w2.heap.size := (Array.getElem?_eq_some_iff.1 hcurA).1
  have hA3 := (hkeep gA hlA hneA).trans hcurA
  have hset : ∀ j, j ≠ gA → (w3.setCell ⟨gA, init.length * 2 + 1, none⟩ (.slice (some ⟨g5, 0, none⟩) (vs.length + 1) cap5)).heap[j]? = w3.heap[j]? := fun j hj => Below.heap_setCell w3 ⟨gA, init.length * 2 + 1, none⟩ _ j hj
  have ho3 : w3.ownsRow (N + 2) 51 2 (.slice (some ⟨gA, 0, none⟩) (init.length + 1) capA) (init.length + 1) (flatA (init ++ [(typ, vs)]) (usI ++ [u])) := (hho.alloc o).kept hg (.inr hneA)
  have hx3 : BelowX R N w w3 := (h.hx.trans (BelowX.of_below ((Below.refl _ _).alloc (by omega) _))).trans (BelowX.of_grown hg (by simp; omega) (fun k hk => .inr (by have := (hlast.lt k hk).1; omega)))
  have hbs : Below N w3 (w3.setCell ⟨gA, init.length * 2 + 1, none⟩ (.slice (some ⟨g5, 0, none⟩) (vs.length + 1) cap5)) := (Below.refl _ _).setCell (p := ⟨gA, init.length * 2 + 1, none⟩) (by show N ≤ gA; omega) _
  refine ⟨⟨(hset _ (by omega)).trans ((hkeep _ hsz (hneU _ (by omega))).trans h.hc), (hset _ (by omega)).trans ((hkeep _ (by omega) (hneU _ (by omega))).trans h.hn), hx3.trans (BelowX.of_below hbs), ?_, by simp [hul], ?_, ?_⟩, ?_⟩
  · rw [List.length_append]
    have := own_set (i := init.length * 2 + 1) (x := .slice (some ⟨g5, 0, none⟩) (vs.length + 1) cap5) ho3 (by rw [flatA_length _ _ (by simp [hul])]; simp; omega)
    rw [flatA_set init usI (typ, vs) u _ hul] at this
    have e : ∀ us, flatA (init ++ [(typ, vs)]) us = flatA (init ++ [(typ, vs ++ [v])]) us := by
      exact flatA_last init typ vs (vs ++ [v])
    rw [← e]
    exact this
  · intro j x y h1 h2
    by_cases hj : j < init.length
    · rw [List.getElem?_append_left hj] at h1
      rw [List.getElem?_append_left (by rw [hul]; exact hj)] at h2
      have hold := h.hs j x y (by rw [List.getElem?_append_left hj]; exact h1) (by rw [List.getElem?_append_left (by rw [hul]; exact hj)]; exact h2)
      have hne : y.ownBlock = none ∨ y.ownBlock ≠ u.ownBlock := own_or (h.hd j init.length y u (by rw [List.getElem?_append_left (by rw [hul]; exact hj)]; exact h2) (by rw [← hul]; simp) (by omega))
      exact set_kept ((hold.alloc o).kept hg hne) hA3 (by decide)
    · have hj2 : j = init.length := by
        have := (List.getElem?_eq_some_iff.1 h1).1
        simp at this
        omega
      subst hj2
      rw [List.getElem?_append_right (Nat.le_refl _)] at h1
      rw [List.getElem?_append_right (by rw [hul]; exact Nat.le_refl _)] at h2
      simp at h1
      simp [hul] at h2
      subst h1 h2
      rw [List.length_append, sV_append]
      exact set_kept ho hA3 (by decide)
  · have hold : ∀ (i : Nat) (x : Value), usI[i]? = some x → ∀ k, x.ownBlock = some k → k ≠ g5 := by
      intro i x hi k hk e
      subst e
      have hil : i < init.length := by have := (List.getElem?_eq_some_iff.1 hi).1; omega
      have hi' : (usI ++ [u])[i]? = some x := by rw [List.getElem?_append_left (by omega)]; exact hi
      have hu' : (usI ++ [u])[init.length]? = some u := by rw [← hul]; simp
      rcases hat with hat | hat
      · exact h.hd i init.length x u hi' hu' (by omega) k hk hat
      · obtain ⟨y, hy⟩ : ∃ y, (init ++ [(typ, vs)])[i]? = some y := ⟨_, List.getElem?_eq_getElem (by simp; omega)⟩
        have := ((h.hs i y x hy hi').lt k hk).2
        omega
    intro i j x y h1 h2 hij k hk
    by_cases hi : i < usI.length
    · rw [List.getElem?_append_left hi] at h1
      by_cases hj : j < usI.length
      · rw [List.getElem?_append_left hj] at h2
        exact h.hd i j x y (by rw [List.getElem?_append_left hi]; exact h1) (by rw [List.getElem?_append_left hj]; exact h2) hij k hk
      · rw [List.getElem?_append_right (by omega)] at h2
        have : y = .slice (some ⟨g5, 0, none⟩) (vs.length + 1) cap5 := by simpa using List.mem_of_getElem? h2
        subst this
        simp only [Value.ownBlock, ne_eq, Option.some.injEq]
        exact fun e => hold i x h1 k hk e.symm
    · rw [List.getElem?_append_right (by omega)] at h1
      have : x = .slice (some ⟨g5, 0, none⟩) (vs.length + 1) cap5 := by simpa using List.mem_of_getElem? h1
      subst this
      simp only [Value.ownBlock, Option.some.injEq] at hk
      subst hk
      have hj : j < usI.length := by
        have h3 := (List.getElem?_eq_some_iff.1 h2).1
        simp at h3
        have h4 : i = usI.length := by
          have := List.mem_of_getElem? h1
          have h5 := (List.getElem?_eq_some_iff.1 h1).1
          simp at h5
          omega
        omega
      rw [List.getElem?_append_left hj] at h2
      exact fun e => hold j y h2 _ e rfl
  · refine hRd.kept (fun j hj => ?_)
    rw [hset j (by omega)]
    exact hkeep j (by omega) (hneU j (by omega))
end Go.Proofs.YtehpdodjncabkaaDoor
