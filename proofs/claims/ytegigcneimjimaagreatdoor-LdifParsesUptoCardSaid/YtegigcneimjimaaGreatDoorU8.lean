/- LdU. -/
import Derived.Deep.CutBlock
import Derived.Deep.DeepCutAuto
import Derived.Deep.CutRange
import Derived.Test.YtegigcneimjimaaGreatDoorU7
namespace Go.Proofs.YtegigcneimjimaaGreatDoor
open Go.RowKit Go.Lib
set_option maxRecDepth 100000
set_option maxHeartbeats 16000000
theorem setCell_at {w : World} {C i : Nat} {cs : Array Value} {t : TypeId} {u : Value} (h : w.heap[C]? = some (.cells cs t (0, 0))) : (w.setCell ⟨C, i, none⟩ u).heap[C]? = some (.cells (cs.setIfInBounds i u) t (0, 0)) := by
  simp [World.setCell, Array.getElem?_modify, h]
def zeroA : Array Value := #[.string ⟨#[]⟩, .string ⟨#[]⟩, .string ⟨#[]⟩, .int .i64 0, .slice none 0 0, .slice none 0 0, .string ⟨#[]⟩, .string ⟨#[]⟩, .bool false, .bool false]
structure RecAt (R B N : Nat) (w : World) (l : List Pr) (cs : Array Value) (wr : World) : Prop where
  hc : wr.heap[N + 1]? = some (.cells cs 47 (0, 0))
  hn : wr.heap[N]? = some (.cells zeroA 47 (0, 0))
  hr : RdAt wr R B l
  hx : BelowX R N w wr
theorem RecAt.size {R B N : Nat} {w : World} {l : List Pr} {cs : Array Value} {wr : World} (h : RecAt R B N w l cs wr) : N + 1 < wr.heap.size := (Array.getElem?_eq_some_iff.1 h.hc).1
theorem RecAt.next {R B N : Nat} {w : World} {l l' : List Pr} {cs : Array Value} {wr wq : World} (h : RecAt R B N w l cs wr) (hRN : R < N) (hr : RdAt wq R B l') (hg : wr.grownBy wq (some R)) : RecAt R B N w l' cs wq :=
  have hs := h.size
  ⟨(hg.block _ hs (fun e => by injection e with e; omega)).trans h.hc, (hg.block _ (by omega) (fun e => by injection e with e; omega)).trans h.hn, hr, h.hx.trans (BelowX.of_grown hg (by omega) (fun k e => .inl (by cases e; rfl)))⟩
theorem RecAt.set {R B N : Nat} {w : World} {l : List Pr} {cs : Array Value} {wr : World} (h : RecAt R B N w l cs wr) (hRN : R < N) (hBN : B ≤ N) (i : Nat) (v : Value) : RecAt R B N w l (cs.setIfInBounds i v) (wr.setCell ⟨N + 1, i, none⟩ v) :=
  have hb : Below (N + 1) wr (wr.setCell ⟨N + 1, i, none⟩ v) := (Below.refl _ _).setCell (p := ⟨N + 1, i, none⟩) (Nat.le_refl _) _
  ⟨setCell_at h.hc, (hb.block N (by omega)).trans h.hn, h.hr.kept (fun j hj => hb.block j (by omega)), h.hx.trans (BelowX.of_below (hb.mono (by omega)))⟩
theorem RecAt.cell {R B N : Nat} {w : World} {l : List Pr} {cs : Array Value} {wr : World} (h : RecAt R B N w l cs wr) (i : Nat) (v : Value) (hi : cs[i]? = some v) : wr.cell? ⟨N + 1, i, none⟩ = some v ∧ wr.frozen? ⟨N + 1, i, none⟩ = false :=
  ⟨by rw [Lib.cell_of_heap h.hc]; exact hi, Lib.frozen_of_heap h.hc i⟩
def kp (s : List UInt8) : Nat → Int
  | 0 => 0
  | k + 1 => if kindW k = s then k else kp s k
theorem kp_four (s : List UInt8) : kp s 4 = kindI s := by
  unfold kindI
  simp only [kp]
  by_cases h3 : s = kindW 3
  · subst h3; rfl
  · rw [if_neg (fun e => h3 e.symm), if_neg h3]
    by_cases h2 : s = kindW 2
    · subst h2; rfl
    · rw [if_neg (fun e => h2 e.symm), if_neg h2]
      by_cases h1 : s = kindW 1
      · subst h1; rfl
      · rw [if_neg (fun e => h1 e.symm), if_neg h1]
        split <;> rfl
def Ln (p : Pr) : Prop := p.1.length ≤ 1000000000 ∧ p.2.length ≤ 1000000000
theorem nxL_all {n : List UInt8} {l : List Pr} (h : ∀ p ∈ l, Ln p) : ∀ p ∈ nxL n l, Ln p := by
  cases l with
  | nil => exact fun p hp => by cases hp
  | cons p t =>
    intro q hq
    simp only [nxL] at hq
    split at hq
    · exact h q (by simp [hq])
    · exact h q hq
theorem next_ln (R B : Nat) (n : List UInt8) (l : List Pr) (w : World) (h : RdAt w R B l) (hBw : B ≤ w.heap.size) (hn : ∀ p ∈ l, Ln p) (hl : l.length ≤ 1000000000) :
    Calls Tryz.prog 144 #[.pointer (some ⟨R, 0, none⟩), .string ⟨n.toArray⟩] w fun e w' => e = .returned (.tuple #[.string ⟨(nxV n l).toArray⟩, .bool (nxB n l)]) ∧ RdAt w' R B (nxL n l) ∧ w.grownBy w' (some R) :=
  next_any R B n l w h hBw (fun p hp => (hn p hp).2) hl
theorem leftR_mem {t : List UInt8} {l : List Pr} {p : Pr} (h : p ∈ leftR t l) : p ∈ l := (List.dropWhile_sublist _).subset h
theorem modR_ln {l : List Pr} {m : Md} {t : List Pr} (h : modR l = some (m, t)) (hl : ∀ p ∈ l, Ln p) : ∀ p ∈ t, Ln p := by
  cases l with
  | nil => cases h
  | cons y r =>
    simp only [modR] at h
    cases ho : opI y.1 with
    | none => rw [ho] at h; cases h
    | some k =>
      rw [ho] at h
      simp only at h
      split at h
      · simp only [Option.some.injEq, Prod.mk.injEq] at h
        rw [← h.2]
        exact nxL_all (fun p hp => hl p (List.mem_cons_of_mem _ (leftR_mem hp)))
      · cases h
theorem own_from {w w' : World} {base B e size n : Nat} {v : Value} {xs : List Value} (h : w.ownsRow base e size v n xs) (hB : B ≤ base) (hk : ∀ k, B ≤ k → k < w.heap.size → w'.heap[k]? = w.heap[k]?) : w'.ownsRow base e size v n xs := by
  refine ⟨h.1, ?_⟩
  rcases h.2 with h4 | ⟨g, cap, cur, hv, hb, hg, hr⟩
  · exact .inl h4
  · exact .inr ⟨g, cap, cur, hv, hb, (hk g (by omega) (Array.getElem?_eq_some_iff.1 hg).1).trans hg, hr⟩
def recK (a b c : List UInt8) (k : Int) (l4 : List Pr) : Chg :=
  ⟨a, b, c, k, if k = 0 then addR l4 [] else [], if k = 2 then modsR l4.length l4 else [],
    if k = 3 then nxV wRdn l4 else [], if k = 3 then nxV wSup (nxL wOld (nxL wRdn l4)) else [], decide (k = 3) && decide (nxV wOld (nxL wRdn l4) = [49]), decide (k = 3) && nxB wSup (nxL wOld (nxL wRdn l4))⟩
theorem recordR_recK (l : List Pr) : recordR l = recK (nxV wTime l) (nxV wWho (nxL wTime l)) (nxV wDn (nxL wWho (nxL wTime l))) (kindI (nxV wType (nxL wDn (nxL wWho (nxL wTime l))))) (nxL wType (nxL wDn (nxL wWho (nxL wTime l)))) := rfl
theorem ten_cells {g : Nat} {x0 x1 x2 x3 x4 x5 x6 x7 x8 x9 : Value} {W : World} (h : W.heap[g]? = some (.cells #[x0, x1, x2, x3, x4, x5, x6, x7, x8, x9] 47 (0, 0))) :
    (W.cell? ⟨g, 0, none⟩ = some x0 ∧ W.cell? ⟨g, 1, none⟩ = some x1 ∧ W.cell? ⟨g, 2, none⟩ = some x2 ∧ W.cell? ⟨g, 3, none⟩ = some x3 ∧ W.cell? ⟨g, 4, none⟩ = some x4 ∧ W.cell? ⟨g, 5, none⟩ = some x5 ∧ W.cell? ⟨g, 6, none⟩ = some x6 ∧ W.cell? ⟨g, 7, none⟩ = some x7 ∧ W.cell? ⟨g, 8, none⟩ = some x8 ∧ W.cell? ⟨g, 9, none⟩ = some x9) ∧
    W.frozen? ⟨g, 0, none⟩ = false ∧ W.frozen? ⟨g, 1, none⟩ = false ∧ W.frozen? ⟨g, 2, none⟩ = false ∧ W.frozen? ⟨g, 3, none⟩ = false ∧ W.frozen? ⟨g, 4, none⟩ = false ∧ W.frozen? ⟨g, 5, none⟩ = false ∧ W.frozen? ⟨g, 6, none⟩ = false ∧ W.frozen? ⟨g, 7, none⟩ = false ∧ W.frozen? ⟨g, 8, none⟩ = false ∧ W.frozen? ⟨g, 9, none⟩ = false := by
  refine ⟨⟨?_, ?_, ?_, ?_, ?_, ?_, ?_, ?_, ?_, ?_⟩, Lib.frozen_of_heap h 0, Lib.frozen_of_heap h 1, Lib.frozen_of_heap h 2, Lib.frozen_of_heap h 3, Lib.frozen_of_heap h 4, Lib.frozen_of_heap h 5, Lib.frozen_of_heap h 6, Lib.frozen_of_heap h 7, Lib.frozen_of_heap h 8, Lib.frozen_of_heap h 9⟩ <;> (rw [Lib.cell_of_heap h]; rfl)
def put10 (w : World) (N : Nat) (x0 x1 x2 x3 x4 x5 x6 x7 x8 x9 : Value) : World :=
  (((((((((w.setCell ⟨N, 0, none⟩ x0).setCell ⟨N, 1, none⟩ x1).setCell ⟨N, 2, none⟩ x2).setCell ⟨N, 3, none⟩ x3).setCell ⟨N, 4, none⟩ x4).setCell ⟨N, 5, none⟩ x5).setCell ⟨N, 6, none⟩ x6).setCell ⟨N, 7, none⟩ x7).setCell ⟨N, 8, none⟩ x8).setCell ⟨N, 9, none⟩ x9
theorem put10_below (w : World) (N : Nat) (x0 x1 x2 x3 x4 x5 x6 x7 x8 x9 : Value) : Below N w (put10 w N x0 x1 x2 x3 x4 x5 x6 x7 x8 x9) :=
  ((((((((((Below.refl N w).setCell (p := ⟨N, 0, none⟩) (Nat.le_refl _) _).setCell (p := ⟨N, 1, none⟩) (Nat.le_refl _) _).setCell (p := ⟨N, 2, none⟩) (Nat.le_refl _) _).setCell (p := ⟨N, 3, none⟩) (Nat.le_refl _) _).setCell (p := ⟨N, 4, none⟩) (Nat.le_refl _) _).setCell (p := ⟨N, 5, none⟩) (Nat.le_refl _) _).setCell (p := ⟨N, 6, none⟩) (Nat.le_refl _) _).setCell (p := ⟨N, 7, none⟩) (Nat.le_refl _) _).setCell (p := ⟨N, 8, none⟩) (Nat.le_refl _) _).setCell (p := ⟨N, 9, none⟩) (Nat.le_refl _) _
theorem attrs_nil (w : World) : AttrsAt w (.slice none 0 0) [] := ⟨none, 0, rfl, by simp, fun h => absurd rfl h⟩
theorem mods_nil (w : World) : ModsAt w (.slice none 0 0) [] := ⟨none, 0, rfl, by simp, fun h => absurd rfl h⟩
theorem Tryz.infoMod : (Tryz.prog.info? 182).map (fun i => (i.zero, i.size, i.bytes)) = some (some (.agg #[.int .i64 0, .string ⟨#[]⟩, .slice none 0 0]), 3, 48) := by kernel_rfl
def flatM : List Md → List Value → List Value
  | m :: ms, u :: us => .int .i64 m.1 :: .string ⟨m.2.1.toArray⟩ :: u :: flatM ms us
  | _, _ => []
theorem flatM_length : ∀ (ms : List Md) (us : List Value), us.length = ms.length → (flatM ms us).length = ms.length * 3
  | [], _, _ => by simp [flatM]
  | m :: ms, [], h => by simp at h
  | m :: ms, u :: us, h => by
    have := flatM_length ms us (by simpa using h)
    simp only [flatM, List.length_cons, this]
    omega
theorem flatM_snoc : ∀ (ms : List Md) (us : List Value) (m : Md) (u : Value), us.length = ms.length → flatM (ms ++ [m]) (us ++ [u]) = flatM ms us ++ [.int .i64 m.1, .string ⟨m.2.1.toArray⟩, u]
  | [], [], m, u, _ => rfl
  | [], _ :: _, _, _, h => by simp at h
  | _ :: _, [], _, _, h => by simp at h
  | a :: ms, b :: us, m, u, h => by
    have := flatM_snoc ms us m u (by simpa using h)
    simp only [List.cons_append, flatM, this]
theorem flatM_get : ∀ (ms : List Md) (us : List Value) (j : Nat) (m : Md) (u : Value), ms[j]? = some m → us[j]? = some u → (flatM ms us)[j * 3]? = some (.int .i64 m.1) ∧ (flatM ms us)[j * 3 + 1]? = some (.string ⟨m.2.1.toArray⟩) ∧ (flatM ms us)[j * 3 + 2]? = some u
  | [], _, _, _, _, h, _ => by simp at h
  | _ :: _, [], _, _, _, _, h => by simp at h
  | a :: ms, b :: us, 0, m, u, h, k => by
    simp only [List.getElem?_cons_zero, Option.some.injEq] at h k
    subst h k
    exact ⟨rfl, rfl, rfl⟩
  | a :: ms, b :: us, j + 1, m, u, h, k => by
    have := flatM_get ms us j m u (by simpa using h) (by simpa using k)
    rw [show (j + 1) * 3 = j * 3 + 3 by omega]
    exact this
def KeepS (w w' : World) : Prop := ∀ (g : Nat) (cur : Array Value), w.heap[g]? = some (.cells cur 9 (0, 0)) → w'.heap[g]? = some (.cells cur 9 (0, 0))
theorem KeepS.trans {a b c : World} (h : KeepS a b) (k : KeepS b c) : KeepS a c := fun g cur hg => k g cur (h g cur hg)
theorem KeepS.below {w w' : World} (h : Below w.heap.size w w') : KeepS w w' := fun g _ hg => (h.block g (Array.getElem?_eq_some_iff.1 hg).1).trans hg
theorem KeepS.but {w w' : World} {X : Nat} {cs : Array Value} {t : TypeId} {f : Nat × Nat} (hX : w.heap[X]? = some (.cells cs t f)) (ht : t ≠ 9) (h : ∀ j, j < w.heap.size → j ≠ X → w'.heap[j]? = w.heap[j]?) : KeepS w w' := fun g cur hg => by
  refine (h g (Array.getElem?_eq_some_iff.1 hg).1 (fun e => ?_)).trans hg
  subst e
  rw [hX] at hg
  injection hg with hg
  injection hg with _ h2
  exact ht h2
theorem KeepS.grown {w w' : World} {base size n : Nat} {e : TypeId} {v : Value} {xs : List Value} (ho : w.ownsRow base e size v n xs) (ht : e ≠ 9) (hg : w.grownBy w' v.ownBlock) : KeepS w w' := fun g cur h => by
  refine (hg.block g (Array.getElem?_eq_some_iff.1 h).1 (fun e' => ?_)).trans h
  exact own_ne ho h ht e'.symm
theorem StrsN.keep {B : Nat} {w w' : World} {u : Value} {vs : List (List UInt8)} (h : StrsN B w u vs) (hk : KeepS w w') : StrsN B w' u vs := by
  refine ⟨h.1, ?_⟩
  rcases h.2 with hz | ⟨g, cap, cur, hv, hb, hg, r⟩
  · exact .inl hz
  · exact .inr ⟨g, cap, cur, hv, hb, hk g cur hg, r⟩
theorem StrsN.at {B : Nat} {w : World} {u : Value} {vs : List (List UInt8)} (h : StrsN B w u vs) : StrsAt w u vs := by
  have h' : w.ownsRow B 9 1 u vs.length (sV vs) := h
  rcases id h'.2 with ⟨rfl, h0⟩ | ⟨gu, cu, curu, rfl, _, hgu, hcu, _, _, htu⟩
  · have : vs = [] := List.length_eq_zero_iff.1 h0
    rw [this]
    exact ⟨none, 0, rfl, by simp, fun h => absurd rfl h⟩
  · refine ⟨some ⟨gu, 0, none⟩, cu, rfl, hcu, fun _ => ⟨gu, 0, rfl, fun i y hi => ?_⟩⟩
    rw [Nat.zero_add]
    exact (own_cell h' (by simp [sV, hi])).1
theorem StrsN.mono {B B' : Nat} {w : World} {u : Value} {vs : List (List UInt8)} (h : StrsN B w u vs) (hB : B' ≤ B) : StrsN B' w u vs := by
  refine ⟨h.1, ?_⟩
  rcases h.2 with hz | ⟨g, cap, cur, hv, hb, hg, r⟩
  · exact .inl hz
  · exact .inr ⟨g, cap, cur, hv, Nat.le_trans hB hb, hg, r⟩
theorem mods_own {B B' : Nat} {w : World} {v : Value} {ms : List Md} {us : List Value} (h : w.ownsRow B 182 3 v ms.length (flatM ms us)) (hl : us.length = ms.length)
    (hs : ∀ (j : Nat) (m : Md) (u : Value), ms[j]? = some m → us[j]? = some u → StrsN B' w u m.2.2) : ModsAt w v ms := by
  have hcells := h
  rcases h.2 with ⟨rfl, h0⟩ | ⟨g, cap, cur, rfl, hb, hg, hc, _, _, ht⟩
  · have : ms = [] := List.length_eq_zero_iff.1 h0
    subst this
    exact mods_nil w
  · refine ⟨some ⟨g, 0, none⟩, cap, rfl, hc, fun _ => ⟨g, 0, rfl, fun j x hj => ?_⟩⟩
    obtain ⟨u, hu⟩ : ∃ u, us[j]? = some u := ⟨us[j]'(by rw [hl]; exact (List.getElem?_eq_some_iff.1 hj).1), List.getElem?_eq_getElem _⟩
    obtain ⟨g1, g2, g3⟩ := flatM_get ms us j x u hj hu
    have hadd : ∀ i, (⟨g, 0, none⟩ : Addr).add i = ⟨g, 0 + i, none⟩ := fun i => by unfold Addr.add; split <;> simp_all
    have k1 := hcells.cells (g := g) rfl _ _ g1
    have k2 := hcells.cells (g := g) rfl _ _ g2
    have k3 := hcells.cells (g := g) rfl _ _ g3
    rw [hadd] at k1 k2 k3
    exact ⟨k1, by rw [Nat.add_assoc]; exact k2, u, by rw [Nat.add_assoc]; exact k3, (hs j x u hj hu).at⟩
def RecO (B : Nat) (w : World) (vA vM : Value) (c : Chg) : Prop :=
  (∃ us, w.ownsRow B 179 2 vA c.attrs.length (flatA c.attrs us) ∧ us.length = c.attrs.length ∧ (∀ (j : Nat) (x : At) (u : Value), c.attrs[j]? = some x → us[j]? = some u → w.ownsRow B 9 1 u x.2.length (sV x.2)) ∧ Dist us) ∧
  (∃ us, w.ownsRow B 182 3 vM c.mods.length (flatM c.mods us) ∧ us.length = c.mods.length ∧ (∀ (j : Nat) (x : Md) (u : Value), c.mods[j]? = some x → us[j]? = some u → StrsN B w u x.2.2) ∧ Dist us) ∧
  (vA = .slice none 0 0 ∨ vM = .slice none 0 0)
theorem Dist.nil : Dist [] := fun i j x y h => by cases h
theorem Dist.snoc {us : List Value} {u : Value} {P : Nat} (h : Dist us) (hP : ∀ (i : Nat) (x : Value), us[i]? = some x → ∀ k, x.ownBlock = some k → k < P) (hu : ∀ k, u.ownBlock = some k → P ≤ k) : Dist (us ++ [u]) := by
  intro i j x y h1 h2 hij k hk
  by_cases hi : i < us.length
  · rw [List.getElem?_append_left hi] at h1
    by_cases hj : j < us.length
    · rw [List.getElem?_append_left hj] at h2
      exact h i j x y h1 h2 hij k hk
    · rw [List.getElem?_append_right (by omega)] at h2
      have : y = u := by simpa using List.mem_of_getElem? h2
      subst this
      intro e
      have a := hP i x h1 k hk
      have b := hu k e
      omega
  · rw [List.getElem?_append_right (by omega)] at h1
    have : x = u := by simpa using List.mem_of_getElem? h1
    subst this
    have hj : j < us.length := by
      have h3 := (List.getElem?_eq_some_iff.1 h2).1
      simp at h3
      have h5 : i - us.length < 1 := (List.getElem?_eq_some_iff.1 h1).1
      omega
    rw [List.getElem?_append_left hj] at h2
    intro e
    have a := hP j y h2 k e
    have b := hu k hk
    omega
theorem RecO.nil (B : Nat) (w : World) (c : Chg) (h1 : c.attrs = []) (h2 : c.mods = []) : RecO B w (.slice none 0 0) (.slice none 0 0) c := by
  refine ⟨⟨[], ?_, ?_, ?_, Dist.nil⟩, ⟨[], ?_, ?_, ?_, Dist.nil⟩, .inl rfl⟩
  · rw [h1]; exact World.ownsRow_nil _ _ _ _
  · rw [h1]; rfl
  · intro j x u h; rw [h1] at h; cases h
  · rw [h2]; exact World.ownsRow_nil _ _ _ _
  · rw [h2]; rfl
  · intro j x u h; rw [h2] at h; cases h
theorem RecO.from {B B' : Nat} {w w' : World} {vA vM : Value} {c : Chg} (h : RecO B w vA vM c) (hB : B' ≤ B) (hk : ∀ k, B' ≤ k → k < w.heap.size → w'.heap[k]? = w.heap[k]?) : RecO B w' vA vM c := by
  obtain ⟨⟨us, a1, a2, a3, a4⟩, ⟨vs, m1, m2, m3, m4⟩, hn⟩ := h
  exact ⟨⟨us, own_from a1 hB hk, a2, fun j x u h1 h2 => own_from (a3 j x u h1 h2) hB hk, a4⟩, ⟨vs, own_from m1 hB hk, m2, fun j x u h1 h2 => own_from (m3 j x u h1 h2) hB hk, m4⟩, hn⟩
theorem own_lower {w : World} {base base' e size n : Nat} {v : Value} {xs : List Value} (h : w.ownsRow base e size v n xs) (hb : base' ≤ base) : w.ownsRow base' e size v n xs := by
  refine ⟨h.1, ?_⟩
  rcases h.2 with hz | ⟨g, cap, cur, hv, hB, r⟩
  · exact .inl hz
  · exact .inr ⟨g, cap, cur, hv, Nat.le_trans hb hB, r⟩
theorem RecO.mono {B B' : Nat} {w : World} {vA vM : Value} {c : Chg} (h : RecO B w vA vM c) (hB : B' ≤ B) : RecO B' w vA vM c := by
  obtain ⟨⟨us, a1, a2, a3, a4⟩, ⟨vs, m1, m2, m3, m4⟩, hn⟩ := h
  exact ⟨⟨us, own_lower a1 hB, a2, fun j x u h1 h2 => own_lower (a3 j x u h1 h2) hB, a4⟩, ⟨vs, own_lower m1 hB, m2, fun j x u h1 h2 => (m3 j x u h1 h2).mono hB, m4⟩, hn⟩
theorem RecO.at {B : Nat} {w : World} {vA vM : Value} {c : Chg} (h : RecO B w vA vM c) : AttrsAt w vA c.attrs ∧ ModsAt w vM c.mods := by
  obtain ⟨⟨us, a1, a2, a3, _⟩, ⟨vs, m1, m2, m3, _⟩, _⟩ := h
  exact ⟨attrs_own a1 a2 a3, mods_own m1 m2 m3⟩
def RecPost (R : Nat) (w : World) (l : List Pr) (e : Ending) (w' : World) : Prop :=
  BelowX R w.heap.size w w' ∧ ∃ vA vM, e = .returned (.agg (chgA (recordR l) vA vM)) ∧ RecO w.heap.size w' vA vM (recordR l)
theorem put10_grown (w : World) (N : Nat) (x0 x1 x2 x3 x4 x5 x6 x7 x8 x9 : Value) : w.grownBy (put10 w N x0 x1 x2 x3 x4 x5 x6 x7 x8 x9) (some N) :=
  (((((((((grown_set _ N 0 _).trans (grown_set _ N 1 _)).trans (grown_set _ N 2 _)).trans (grown_set _ N 3 _)).trans (grown_set _ N 4 _)).trans (grown_set _ N 5 _)).trans (grown_set _ N 6 _)).trans (grown_set _ N 7 _)).trans (grown_set _ N 8 _)).trans (grown_set _ N 9 _)
theorem own_form {w : World} {base e size n : Nat} {v : Value} {xs : List Value} (h : w.ownsRow base e size v n xs) : ∃ a c, v = .slice a n c := by
  rcases h.2 with ⟨rfl, h0⟩ | ⟨g, cap, cur, rfl, _⟩
  · exact ⟨none, 0, by rw [h0]⟩
  · exact ⟨_, _, rfl⟩
def MPend (R B P X : Nat) (l0 : List Pr) (s13 : Value) (wr : World) : Prop :=
  match modR l0 with
  | some (m, t) => ∃ u, s13 = .bool true ∧ RdAt wr R B t ∧ wr.heap[X]? = some (.cells #[.int .i64 m.1, .string ⟨m.2.1.toArray⟩, u] 182 (0, 0)) ∧ StrsN P wr u m.2.2
  | none => s13 = .bool false
def MR (R B N : Nat) (w : World) (a b c : List UInt8) (l4 : List Pr) (s12 s13 : Value) (wr : World) : Prop :=
  ∃ (ms : List Md) (us : List Value) (l0 : List Pr) (X P : Nat) (vM : Value), s12 = .pointer (some ⟨X, 0, none⟩) ∧ N + 1 < X ∧ modsR l4.length l4 = ms ++ modsR l0.length l0 ∧ ms.length + l0.length ≤ l4.length ∧ (∀ p ∈ l0, Ln p) ∧
    wr.heap[N + 1]? = some (.cells #[.string ⟨a.toArray⟩, .string ⟨b.toArray⟩, .string ⟨c.toArray⟩, .int .i64 2, .slice none 0 0, vM, .string ⟨#[]⟩, .string ⟨#[]⟩, .bool false, .bool false] 47 (0, 0)) ∧
    wr.heap[N]? = some (.cells zeroA 47 (0, 0)) ∧ BelowX R N w wr ∧
    wr.ownsRow (N + 2) 182 3 vM ms.length (flatM ms us) ∧ (∀ g, vM.ownBlock = some g → g < X) ∧ us.length = ms.length ∧ (∀ (j : Nat) (m : Md) (u : Value), ms[j]? = some m → us[j]? = some u → StrsN N wr u m.2.2) ∧
    (N ≤ P ∧ Dist us ∧ ∀ (i : Nat) (u : Value), us[i]? = some u → ∀ k, u.ownBlock = some k → k < P) ∧ MPend R B P X l0 s13 wr
def modN (R : Nat) (s13 : Value) (w : World) : Nat := boolN s13 * (lenP R w + 1)
theorem modPost_form {R B : Nat} {w : World} {l : List Pr} {e : Ending} {w' : World} (h : ModPost R B w l e w') : ∃ (k : Int) (typ : List UInt8) (a : Option Addr) (n cap : Nat) (ok : Bool), e = .returned (.tuple #[.agg #[.int .i64 k, .string ⟨typ.toArray⟩, .slice a n cap], .bool ok]) ∧ BelowX R w.heap.size w w' ∧
    (match modR l with
    | some (m, t) => ok = true ∧ m.1 = k ∧ m.2.1 = typ ∧ RdAt w' R B t ∧ StrsN w.heap.size w' (.slice a n cap) m.2.2
    | none => ok = false) := by
  obtain ⟨hx, hm⟩ := h
  cases hr : modR l with
  | none =>
    rw [hr] at hm
    obtain ⟨k, typ, a, n, c, he⟩ := hm
    exact ⟨k, typ, a, n, c, false, he, hx, rfl⟩
  | some mt =>
    obtain ⟨m, t⟩ := mt
    rw [hr] at hm
    obtain ⟨u, he, hR, hS⟩ := hm
    obtain ⟨a, cap, rfl⟩ := own_form hS
    exact ⟨m.1, m.2.1, a, _, cap, true, he, hx, rfl, rfl, rfl, hR, hS⟩
theorem pend_of {R B N X : Nat} {w w' w2 : World} {l : List Pr} {k : Int} {typ : List UInt8} {a : Option Addr} {n cap : Nat} {ok : Bool} (hN : N ≤ w.heap.size)
    (hm : match modR l with
    | some (m, t) => ok = true ∧ m.1 = k ∧ m.2.1 = typ ∧ RdAt w' R B t ∧ StrsN w.heap.size w' (.slice a n cap) m.2.2
    | none => ok = false)
    (hX : w2.heap[X]? = some (.cells #[.int .i64 k, .string ⟨typ.toArray⟩, .slice a n cap] 182 (0, 0))) (hR : ∀ t, RdAt w' R B t → RdAt w2 R B t) (hK : KeepS w' w2) : MPend R B N X l (.bool ok) w2 := by
  unfold MPend
  cases hr : modR l with
  | none => rw [hr] at hm; rw [hm]
  | some mt =>
    obtain ⟨m, t⟩ := mt
    rw [hr] at hm
    obtain ⟨rfl, rfl, rfl, h4, h5⟩ := hm
    exact ⟨_, rfl, hR _ h4, hX, (h5.mono hN).keep hK⟩
def newB (acc : List At) (typ : List UInt8) : Bool := match acc.getLast? with | none => true | some a => !(a.1 == typ)
def AR (R B N : Nat) (w : World) (a b c : List UInt8) (l4 : List Pr) (wr : World) : Prop :=
  ∃ (acc : List At) (us : List Value) (l0 : List Pr) (vA : Value), AttS R N w a b c acc us vA wr ∧ RdAt wr R B l0 ∧ addR l4 [] = addR l0 acc ∧ acc.length + l0.length ≤ l4.length ∧ (∀ x ∈ acc, x.2.length + l0.length ≤ l4.length) ∧ (∀ p ∈ l0, Ln p)
def AQ (R B N : Nat) (w : World) (a b c typ v : List UInt8) (acc : List At) (t : List Pr) (n : Nat) (wx : World) : Prop :=
  ∃ (init : List At) (usI : List Value) (u : Value) (vs : List (List UInt8)) (vA : Value), usI.length = init.length ∧ AttS R N w a b c (init ++ [(typ, vs)]) (usI ++ [u]) vA wx ∧ putA (typ, v) acc = init ++ [(typ, vs ++ [v])] ∧ RdAt wx R B t ∧ init.length ≤ acc.length ∧ vs.length + t.length + 1 ≤ n ∧ (∀ x ∈ init, x.2.length + t.length ≤ n)
theorem record_any (R B : Nat) (l : List Pr) (w : World) (h : RdAt w R B l) (hBw : B ≤ w.heap.size) (hn : ∀ p ∈ l, Ln p) (hl : l.length ≤ 1000000000) :
    Calls Tryz.prog 32 #[.pointer (some ⟨R, 0, none⟩)] w (RecPost R w l) := by
  have hRlt : R < w.heap.size := by obtain ⟨v, hR, _⟩ := h; exact (Array.getElem?_eq_some_iff.1 hR).1
  obtain ⟨PR, hPR⟩ : ∃ P, RecPost R w l = P := ⟨_, rfl⟩
  rw [hPR]
  have HPR := Lib.hid hPR
  have HN := Lib.hid hn
  clear hPR hn
  have hb1 : Below w.heap.size w (w.alloc (.cells zeroA 47)) := (Below.refl _ _).alloc (Nat.le_refl _) _
  have hb2 : Below w.heap.size w ((w.alloc (.cells zeroA 47)).alloc (.cells zeroA 47)) := hb1.alloc (by simp) _
  have hk1 : ((w.alloc (.cells zeroA 47)).alloc (.cells zeroA 47)).heap[w.heap.size]? = some (.cells zeroA 47 (0, 0)) := (Lib.alloc_old _ _ _ (by simp)).trans (alloc_at _ _ _ rfl)
  have hk2 : ((w.alloc (.cells zeroA 47)).alloc (.cells zeroA 47)).heap[w.heap.size + 1]? = some (.cells zeroA 47 (0, 0)) := alloc_at _ _ _ (by simp)
  have hrec : RecAt R B w.heap.size w l zeroA ((w.alloc (.cells zeroA 47)).alloc (.cells zeroA 47)) :=
    ⟨hk2, hk1, h.kept (fun j hj => hb2.block j (by omega)), BelowX.of_below hb2⟩
  have hz : zeroA = #[.string ⟨#[]⟩, .string ⟨#[]⟩, .string ⟨#[]⟩, .int .i64 0, .slice none 0 0, .slice none 0 0, .string ⟨#[]⟩, .string ⟨#[]⟩, .bool false, .bool false] := rfl
  rw [hz] at hrec
  clear hk1 hk2 hb1 hb2 h hz
  go_enter Tryz.func32, Tryz.ntmps32
  go_wp2_with fail
  generalize (w.alloc (.cells #[.string ⟨#[]⟩, .string ⟨#[]⟩, .string ⟨#[]⟩, .int .i64 0, .slice none 0 0, .slice none 0 0, .string ⟨#[]⟩, .string ⟨#[]⟩, .bool false, .bool false] 47)).alloc (.cells #[.string ⟨#[]⟩, .string ⟨#[]⟩, .string ⟨#[]⟩, .int .i64 0, .slice none 0 0, .slice none 0 0, .string ⟨#[]⟩, .string ⟨#[]⟩, .bool false, .bool false] 47) = w1 at hrec ⊢
  generalize hN : w.heap.size = N at hrec hBw hRlt ⊢
  have HNN := Lib.hid hN
  clear hN
  refine Calls.mono (next_ln R B wTime l w1 hrec.hr (by have := hrec.size; omega) HN.out hl) ?_
  rintro e w2 ⟨rfl, hr, hg⟩
  replace hrec := hrec.next hRlt hr hg
  have HL1 := Lib.hid (nxL_all (n := wTime) HN.out)
  have hl1 := Nat.le_trans (nxL_le wTime l) hl
  obtain ⟨l1, e1⟩ : ∃ x, nxL wTime l = x := ⟨_, rfl⟩
  obtain ⟨v1, i1⟩ : ∃ x, nxV wTime l = x := ⟨_, rfl⟩
  rw [i1]
  rw [e1] at hrec HL1 hl1
  have E1 := Lib.hid e1
  have I1 := Lib.hid i1
  obtain ⟨c0, f0⟩ := hrec.cell 0 _ rfl
  clear hr hg e1 i1
  go_wp2_with fail
  replace hrec := hrec.set hRlt hBw 0 (.string ⟨v1.toArray⟩)
  generalize w2.setCell ⟨N + 1, 0, none⟩ (.string ⟨v1.toArray⟩) = w3 at hrec ⊢
  clear c0 f0
  refine Calls.mono (next_ln R B wWho l1 w3 hrec.hr (by have := hrec.size; omega) HL1.out hl1) ?_
  rintro e w4 ⟨rfl, hr, hg⟩
  replace hrec := hrec.next hRlt hr hg
  have HL2 := Lib.hid (nxL_all (n := wWho) HL1.out)
  have hl2 := Nat.le_trans (nxL_le wWho l1) hl1
  obtain ⟨l2, e2⟩ : ∃ x, nxL wWho l1 = x := ⟨_, rfl⟩
  obtain ⟨v2, i2⟩ : ∃ x, nxV wWho l1 = x := ⟨_, rfl⟩
  rw [i2]
  rw [e2] at hrec HL2 hl2
  have E2 := Lib.hid e2
  have I2 := Lib.hid i2
  obtain ⟨c0, f0⟩ := hrec.cell 1 _ rfl
  clear hr hg e2 i2
  go_wp2_with fail
  replace hrec := hrec.set hRlt hBw 1 (.string ⟨v2.toArray⟩)
  generalize w4.setCell ⟨N + 1, 1, none⟩ (.string ⟨v2.toArray⟩) = w5 at hrec ⊢
  clear c0 f0
  refine Calls.mono (next_ln R B wDn l2 w5 hrec.hr (by have := hrec.size; omega) HL2.out hl2) ?_
  rintro e w6 ⟨rfl, hr, hg⟩
  replace hrec := hrec.next hRlt hr hg
  have HL3 := Lib.hid (nxL_all (n := wDn) HL2.out)
  have hl3 := Nat.le_trans (nxL_le wDn l2) hl2
  obtain ⟨l3, e3⟩ : ∃ x, nxL wDn l2 = x := ⟨_, rfl⟩
  obtain ⟨v3, i3⟩ : ∃ x, nxV wDn l2 = x := ⟨_, rfl⟩
  rw [i3]
  rw [e3] at hrec HL3 hl3
  have E3 := Lib.hid e3
  have I3 := Lib.hid i3
  obtain ⟨c0, f0⟩ := hrec.cell 2 _ rfl
  clear hr hg e3 i3
  go_wp2_with fail
  replace hrec := hrec.set hRlt hBw 2 (.string ⟨v3.toArray⟩)
  generalize w6.setCell ⟨N + 1, 2, none⟩ (.string ⟨v3.toArray⟩) = w7 at hrec ⊢
  clear c0 f0
  refine Calls.mono (next_ln R B wType l3 w7 hrec.hr (by have := hrec.size; omega) HL3.out hl3) ?_
  rintro e w8 ⟨rfl, hr, hg⟩
  replace hrec := hrec.next hRlt hr hg
  have HL4 := Lib.hid (nxL_all (n := wType) HL3.out)
  have hl4 := Nat.le_trans (nxL_le wType l3) hl3
  obtain ⟨l4, e4⟩ : ∃ x, nxL wType l3 = x := ⟨_, rfl⟩
  obtain ⟨v4, i4⟩ : ∃ x, nxV wType l3 = x := ⟨_, rfl⟩
  rw [i4]
  rw [e4] at hrec HL4 hl4
  have E4 := Lib.hid e4
  have I4 := Lib.hid i4
  clear hr hg e4 i4
  obtain ⟨b4, hb4⟩ : ∃ b, nxB wType l3 = b := ⟨_, rfl⟩
  rw [hb4]
  clear hb4
  go_wp2_with fail
  go_loopw [39] (fun i wr => ∃ k : Nat, i = .int .i64 (k : Int) ∧ k ≤ 4 ∧ RecAt R B N w l4 #[.string ⟨v1.toArray⟩, .string ⟨v2.toArray⟩, .string ⟨v3.toArray⟩, .int .i64 (kp v4 k), .slice none 0 0, .slice none 0 0, .string ⟨#[]⟩, .string ⟨#[]⟩, .bool false, .bool false] wr) (fun i _ => 4 - (RowKit.intOf i).toNat)
  case atStart => exact ⟨0, rfl, by omega, hrec⟩
  case round =>
    obtain ⟨k, rfl, hk, hrk⟩ := hrel
    clear hrec
    by_cases hk4 : k < 4
    · have kk := fun w' => kindWord_any (k : Int) w' (by omega)
      obtain ⟨c0, f0⟩ := hrk.cell 3 _ rfl
      obtain ⟨KW, hKW⟩ : ∃ K, kindW (k : Int) = K := ⟨_, rfl⟩
      rw [hKW] at kk
      have g1 : decide ((k : Int) < 4) = true := decide_eq_true (by omega)
      by_cases hq : KW = v4
      · have hkp : kp v4 (k + 1) = (k : Int) := by simp only [kp]; rw [hKW, if_pos hq]
        have HKP := Lib.hid hkp
        have gq : (v4 == v4) = true := by simp
        rw [hq] at kk
        clear hKW hq hkp
        go_wp2_with (go_at_call 133; refine (kk _).mono ?_; rintro e w' ⟨rfl, rfl⟩)
        go_roundw
        case rel =>
          refine ⟨k + 1, by go_num, by omega, ?_⟩
          rw [HKP.out]
          exact hrk.set hRlt hBw 3 (.int .i64 (k : Int))
        case measure => simp [RowKit.intOf]; omega
      · have hkp : kp v4 (k + 1) = kp v4 k := by simp only [kp]; rw [hKW, if_neg hq]
        have HKP := Lib.hid hkp
        have gq : (KW == v4) = false := by simpa using hq
        clear hKW hkp
        go_wp2_with (go_at_call 133; refine (kk _).mono ?_; rintro e w' ⟨rfl, rfl⟩)
        go_roundw
        case rel =>
          refine ⟨k + 1, by go_num, by omega, ?_⟩
          rw [HKP.out]
          exact hrk
        case measure => simp [RowKit.intOf]; omega
    · obtain rfl : k = 4 := by omega
      have g1 : decide ((4 : Int) < 4) = false := by decide
      rw [kp_four] at hrk
      obtain ⟨kd, hkd⟩ : ∃ x, kindI v4 = x := ⟨_, rfl⟩
      rw [hkd] at hrk
      have HKD := Lib.hid hkd
      have hkk : kd = 0 ∨ kd = 1 ∨ kd = 2 ∨ kd = 3 := by
        rw [← hkd]; unfold kindI; split
        · simp
        · split
          · simp
          · split <;> simp
      clear hkd
      have hRR : recordR l = recK v1 v2 v3 kd l4 := by
        rw [recordR_recK, E1.out, I1.out, E2.out, I2.out, E3.out, I3.out, E4.out, I4.out, HKD.out]
      have HRR := Lib.hid hRR
      clear hRR
      rcases hkk with rfl | rfl | rfl | rfl
      · obtain ⟨c0, f0⟩ := hrk.cell 3 _ rfl
        have hat0 : AttS R N w v1 v2 v3 [] [] (.slice none 0 0) wr := ⟨hrk.hc, hrk.hn, hrk.hx, World.ownsRow_nil _ _ _ _, rfl, (fun j x u h => by cases h), (fun i j x y h => by cases h)⟩
        have hrd0 := hrk.hr
        clear hrk
        go_wp2_with fail
        clear c0 f0
        obtain ⟨i0, hi0, hz0, hz1, hz2⟩ := info_parts Tryz.infoAttr
        obtain ⟨iS, hiS, hy0, hy1, hy2⟩ := info_parts Tryz.infoString
        go_loopw [10] (fun _ wq => AR R B N w v1 v2 v3 l4 wq) (fun _ wq => lenP R wq)
        case atStart => exact ⟨[], [], l4, .slice none 0 0, hat0, hrd0, rfl, by simp, (fun x hx => by cases hx), HL4.out⟩
        case round =>
          obtain ⟨acc, us, l0, vA, hat, hrd, hadd, hle, hvl, hln⟩ := hrel
          clear hat0 hrd0
          have hsz : N + 1 < wr.heap.size := (Array.getElem?_eq_some_iff.1 hat.hc).1
          have hlp := lenP_at hrd
          obtain ⟨vP, hRh, aP, cP, hvP, hcP, hrP⟩ := id hrd
          subst hvP
          have r0 : wr.cell? ⟨R, 0, none⟩ = some (.slice aP l0.length cP) := by rw [Lib.cell_of_heap hRh]; rfl
          cases l0 with
          | nil =>
            have hadd' : addR l4 [] = acc := by rw [hadd]; rfl
            clear hlp
            have hrK : recK v1 v2 v3 0 l4 = ⟨v1, v2, v3, 0, acc, [], [], [], false, false⟩ := by simp [recK, hadd']
            have HRK := Lib.hid hrK
            obtain ⟨aA, cA, hvA⟩ := own_form hat.ho
            subst hvA
            have hgr := put10_grown wr N (.string ⟨v1.toArray⟩) (.string ⟨v2.toArray⟩) (.string ⟨v3.toArray⟩) (.int .i64 0) (.slice aA acc.length cA) (.slice none 0 0) (.string ⟨#[]⟩) (.string ⟨#[]⟩) (.bool false) (.bool false)
            have ho9 := hat.ho.kept hgr (.inr (fun e => by have := (hat.ho.lt N e).1; omega))
            have hs9 := fun (j : Nat) (x : At) (u : Value) h1 h2 => (hat.hs j x u h1 h2).kept hgr (.inr (fun e => by have := ((hat.hs j x u h1 h2).lt N e).1; omega))
            have HAO := Lib.hid (show RecO N _ (.slice aA acc.length cA) (.slice none 0 0) ⟨v1, v2, v3, 0, acc, [], [], [], false, false⟩ from ⟨⟨us, own_lower ho9 (by omega), hat.hl, fun j x u h1 h2 => own_lower (hs9 j x u h1 h2) (by omega), hat.hd⟩, ⟨[], World.ownsRow_nil _ _ _ _, rfl, (fun j x u h => by cases h), Dist.nil⟩, .inr rfl⟩)
            clear ho9 hs9
            have hfin := hat.hx.trans (BelowX.of_below (R := R) (put10_below wr N (.string ⟨v1.toArray⟩) (.string ⟨v2.toArray⟩) (.string ⟨v3.toArray⟩) (.int .i64 0) (.slice aA acc.length cA) (.slice none 0 0) (.string ⟨#[]⟩) (.string ⟨#[]⟩) (.bool false) (.bool false)))
            obtain ⟨⟨c0, c1, c2, c3, c4, c5, c6, c7, c8, c9⟩, _⟩ := ten_cells hat.hc
            obtain ⟨⟨n0, n1, n2, n3, n4, n5, n6, n7, n8, n9⟩, z0, z1, z2, z3, z4, z5, z6, z7, z8, z9⟩ := ten_cells hat.hn
            clear hadd hadd' hrK
            go_wp2_with fail
            refine bodyPost_ret (v := .agg (chgA ⟨v1, v2, v3, 0, acc, [], [], [], false, false⟩ (.slice aA acc.length cA) (.slice none 0 0))) (by simp [results, Tryz.results32, go_sem, n0, n1, n2, n3, n4, n5, n6, n7, n8, n9, chgA]) rfl ?_
            rw [← HPR.out]
            unfold RecPost
            rw [HRR.out, HRK.out, HNN.out]
            exact ⟨hfin, _, _, rfl, HAO.out⟩
          | cons p t =>
            obtain ⟨gP, oP, rfl, hgR, hgB, hcc⟩ := hrP (by simp)
            have p0 := (hcc 0 p rfl).1
            rw [Nat.zero_mul, Nat.add_zero] at p0
            rw [List.length_cons] at r0 hcP
            by_cases hp1 : p.1 = []
            · have hadd' : addR l4 [] = acc := by rw [hadd]; simp [addR, hp1]
              rw [hp1] at p0
              clear hlp hcc hrP
              have hrK : recK v1 v2 v3 0 l4 = ⟨v1, v2, v3, 0, acc, [], [], [], false, false⟩ := by simp [recK, hadd']
              have HRK := Lib.hid hrK
              obtain ⟨aA, cA, hvA⟩ := own_form hat.ho
              subst hvA
              have hgr := put10_grown wr N (.string ⟨v1.toArray⟩) (.string ⟨v2.toArray⟩) (.string ⟨v3.toArray⟩) (.int .i64 0) (.slice aA acc.length cA) (.slice none 0 0) (.string ⟨#[]⟩) (.string ⟨#[]⟩) (.bool false) (.bool false)
              have ho9 := hat.ho.kept hgr (.inr (fun e => by have := (hat.ho.lt N e).1; omega))
              have hs9 := fun (j : Nat) (x : At) (u : Value) h1 h2 => (hat.hs j x u h1 h2).kept hgr (.inr (fun e => by have := ((hat.hs j x u h1 h2).lt N e).1; omega))
              have HAO := Lib.hid (show RecO N _ (.slice aA acc.length cA) (.slice none 0 0) ⟨v1, v2, v3, 0, acc, [], [], [], false, false⟩ from ⟨⟨us, own_lower ho9 (by omega), hat.hl, fun j x u h1 h2 => own_lower (hs9 j x u h1 h2) (by omega), hat.hd⟩, ⟨[], World.ownsRow_nil _ _ _ _, rfl, (fun j x u h => by cases h), Dist.nil⟩, .inr rfl⟩)
              clear ho9 hs9
              have hfin := hat.hx.trans (BelowX.of_below (R := R) (put10_below wr N (.string ⟨v1.toArray⟩) (.string ⟨v2.toArray⟩) (.string ⟨v3.toArray⟩) (.int .i64 0) (.slice aA acc.length cA) (.slice none 0 0) (.string ⟨#[]⟩) (.string ⟨#[]⟩) (.bool false) (.bool false)))
              obtain ⟨⟨c0, c1, c2, c3, c4, c5, c6, c7, c8, c9⟩, _⟩ := ten_cells hat.hc
              obtain ⟨⟨n0, n1, n2, n3, n4, n5, n6, n7, n8, n9⟩, z0, z1, z2, z3, z4, z5, z6, z7, z8, z9⟩ := ten_cells hat.hn
              clear hadd hadd' hrK
              go_wp2_with fail
              refine bodyPost_ret (v := .agg (chgA ⟨v1, v2, v3, 0, acc, [], [], [], false, false⟩ (.slice aA acc.length cA) (.slice none 0 0))) (by simp [results, Tryz.results32, go_sem, n0, n1, n2, n3, n4, n5, n6, n7, n8, n9, chgA]) rfl ?_
              rw [← HPR.out]
              unfold RecPost
              rw [HRR.out, HRK.out, HNN.out]
              exact ⟨hfin, _, _, rfl, HAO.out⟩
            · obtain ⟨typ, v⟩ := p
              simp only at p0 hp1
              have hadd' : addR l4 [] = addR t (putA (typ, v) acc) := by rw [hadd]; simp [addR, hp1]
              have HADD := Lib.hid hadd'
              have hp2 : (typ == []) = false := by simpa using hp1
              have hne1 : (!typ.isEmpty) = true := by simpa using hp1
              have en1 : nxV typ ((typ, v) :: t) = v := by simp [nxV]
              have en2 : nxL typ ((typ, v) :: t) = t := by simp [nxL]
              have en3 : nxB typ ((typ, v) :: t) = true := by simp [nxB]
              have kn := next_ln R B typ ((typ, v) :: t) wr hrd (by omega) hln (by simp at hle ⊢; omega)
              rw [en1, en2, en3] at kn
              have HLNT := Lib.hid (fun q hq => hln q (List.mem_cons_of_mem _ hq) : ∀ q ∈ t, Ln q)
              have hLt := hln (typ, v) (by simp)
              have HVL := Lib.hid hvl
              have HLP := Lib.hid hlp
              simp only [List.length_cons] at hle
              clear hadd hadd' en1 en2 en3 hln hlp hcc hrP hvl
              go_upto_region 17 with (go_at_call 144; refine Calls.mono (show Calls _ _ _ _ _ from kn) ?_; rintro e w2 ⟨rfl, hrd2, hg2⟩)
              have hat2 := hat.kept hRlt hg2
              have hsz2 : N + 1 < w2.heap.size := (Array.getElem?_eq_some_iff.1 hat2.hc).1
              have HAT := Lib.hid hat2
              obtain ⟨aA, cA, hvA⟩ := own_form hat2.ho
              subst hvA
              obtain ⟨⟨_, _, _, _, c4, _⟩, _, _, _, _, f4, _⟩ := ten_cells hat2.hc
              have HRD := Lib.hid hrd2
              obtain ⟨n, hnn⟩ : ∃ n, acc.length = n := ⟨_, rfl⟩
              rw [hnn] at c4 hle
              have HNA := Lib.hid hnn
              have ho2 := hat2.ho
              rw [hnn] at ho2
              rw [hnn] at HAT
              clear hat hat2 hrd2 hg2 hnn r0 p0 hRh hrd kn hp1 hp2 hne1
              go_upto_region 18 with fail
              obtain ⟨NW, hNW⟩ : ∃ b, newB acc typ = b := ⟨_, rfl⟩
              have HNW := Lib.hid hNW
              clear hNW
              go_cut [97] from 85 to 97 (fun s97 wx => s97 = .bool NW ∧ wx = w2)
              case first =>
                rcases List.eq_nil_or_concat acc with hnil | ⟨init, bb, hcon⟩
                · have hnw : NW = true := by rw [← HNW.out, hnil]; rfl
                  subst hnw
                  have g0 : ((n : Int) == 0) = true := by rw [← HNA.out, hnil]; rfl
                  clear hnil
                  go_wp2_with fail
                  go_meet
                  case rel => exact ⟨rfl, rfl⟩
                · obtain ⟨ty, vs⟩ := bb
                  rw [List.concat_eq_append] at hcon
                  have hn1 : n = init.length + 1 := by rw [← HNA.out, hcon]; simp
                  have g0 : ((n : Int) == 0) = false := by rw [beq_eq_false_iff_ne]; omega
                  have hgl : acc.getLast? = some (ty, vs) := by rw [hcon]; simp
                  have hus : us.length = acc.length := HAT.out.hl
                  obtain ⟨gA, capA, hvA, hgA1, hgA2⟩ := ho2.form (by omega)
                  cases hvA
                  obtain ⟨uu, huu⟩ : ∃ uu, us[init.length]? = some uu := ⟨_, List.getElem?_eq_getElem (by rw [hus, HNA.out]; omega)⟩
                  obtain ⟨q1, _⟩ := own_cell ho2 (flatA_get acc us init.length (ty, vs) uu (by rw [hcon]; simp) huu).1
                  have i1 : (0 : Int) ≤ (init.length : Int) := by omega
                  have i2 : (init.length : Int) < (n : Int) := by omega
                  have i3 : (n : Int) - 1 = (init.length : Int) := by omega
                  have i4 : IntKind.i64.wrap ((n : Int) - 1) = (init.length : Int) := by rw [i3]; exact wraps_i64 _ (by omega) (by omega)
                  obtain ⟨K, hK⟩ : ∃ K, init.length = K := ⟨_, rfl⟩
                  rw [hK] at q1 i1 i2 i3 i4
                  by_cases hty : ty = typ
                  · have hnw : NW = false := by rw [← HNW.out]; simp [newB, hgl, hty]
                    subst hnw
                    rw [hty] at q1
                    have b1 : (typ == typ) = true := by simp
                    clear hcon hgl hus huu hty hK hn1 i3
                    go_wp2_with fail
                    go_meet
                    case rel => exact ⟨rfl, rfl⟩
                  · have hnw : NW = true := by rw [← HNW.out]; simp [newB, hgl, hty]
                    subst hnw
                    have b1 : (ty == typ) = false := by simpa using hty
                    clear hcon hgl hus huu hK hn1 i3
                    go_wp2_with fail
                    go_meet
                    case rel => exact ⟨rfl, rfl⟩
              case rest =>
                obtain ⟨rfl, rfl⟩ := hcut
                clear f4
                have f4 := Lib.frozen_of_heap HAT.out.hc 4
                go_upto_if 97 with fail
                go_cut [] from 98 to 104 (fun wx => AQ R B N w v1 v2 v3 typ v acc t l4.length wx)
                case first =>
                  have htyl : typ.length ≤ 1099511627776 := by have := hLt.1; simp at this; omega
                  have kcl := Clone_any typ wc.drew htyl
                  cases NW with
                  | true =>
                    have hnew : putA (typ, v) acc = acc ++ [(typ, [] ++ [v])] := by
                      have h := HNW.out
                      unfold newB at h
                      unfold putA
                      split at h
                      · rename_i hg
                        have : acc = [] := by simpa using hg
                        rw [this]; rfl
                      · rename_i a hg
                        rw [hg]
                        simp at h
                        simp [h]
                    have HPUT := Lib.hid hnew
                    clear hnew
                    go_upto_region 19 with fail
                    refine wp_region_any (by kernel_rfl) ?_
                    change wpAny _ _ _ _ _ _ _ (World.drew _)
                    refine any_take 0 (.pointer (some ⟨N + 1, 4, none⟩)) rfl (by kernel_rfl) (by kernel_rfl) (by kernel_rfl) (fun _ _ _ h => h) (by rfl) (fun w => by go_simp) (fun K hK => ?_); go_simp; refine hK _ _ ?_; clear hK K
                    refine any_take 2 (.string ⟨typ.toArray⟩) rfl (by kernel_rfl) (by kernel_rfl) (by kernel_rfl) (fun _ _ _ h => h) (by rfl) (fun w => by go_simp) (fun K hK => ?_); go_simp; refine hK _ _ ?_; clear hK K
                    refine any_two 1 3 (by kernel_rfl) rfl (by rfl) rfl (by rfl) (fun K hK => ?_) (fun K hK => ?_)
                    · go_simp; refine hK _ _ ?_; clear hK K
                      refine any_one 3 (by kernel_rfl) rfl (by rfl) (fun K hK => ?_); go_simp; go_wp2_with (go_at_call 145; refine Calls.mono (show Calls _ _ _ _ _ from kcl) ?_; rintro e w5 ⟨rfl, hb5'⟩; have hb5 : Below wc.heap.size wc w5 := (Below.drew (Below.refl _ _)).trans hb5'; have s0 : w5.cell? ⟨N + 1, 4, none⟩ = some (.slice aA n cA) := (hb5.cell (p := ⟨N + 1, 4, none⟩) hsz2).trans c4; have ho5 := own_below ho2 hb5; have hs5 := hb5.size)
                      refine any_one 4 (by kernel_rfl) rfl (by rfl) (fun K hK => ?_); go_simp; refine hK _ _ ?_; clear hK K
                      refine any_one 5 (by kernel_rfl) rfl (by rfl) (fun K hK => ?_); go_simp; refine hK _ _ ?_; clear hK K
                      refine any_one 6 (by kernel_rfl) rfl (by rfl) (fun K hK => ?_)
                      refine wp_append_lies _ _ _ _ (by rfl) (N + 2) 179 i0 _ 2 40 Tryz.underlying44 hi0 hz0 hz1 hz2 rfl (by omega) (.slice aA n cA) n (flatA acc us) (by rfl) (ho5.alloc _) ⟨w5.heap.size, 0, none⟩ 1 1 [.string ⟨typ.toArray⟩, .slice none 0 0] (by rfl) (by rfl) (World.news_of_block (alloc_at _ _ _ rfl)) (by intro x hx; simp at hx; rcases hx with rfl | rfl <;> rfl) (by omega) (by unfold maxLen; omega) (by omega) (by simp; omega) (w5.heap.size + 1) (by simp) ?_
                      intro g7 cap7 w7 ho7 hg7 hat7 hlt7
                      have hc7 := (hg7.block (N + 1) (by simp; omega) (fun e => by have := (ho5.lt (N + 1) e.symm).1; omega)).trans ((Lib.alloc_old _ _ _ (by omega)).trans ((hb5.block (N + 1) hsz2).trans HAT.out.hc))
                      have r4 : w7.cell? ⟨N + 1, 4, none⟩ = some (.slice aA n cA) := by rw [Lib.cell_of_heap hc7]; rfl
                      have r5 : w7.frozen? ⟨N + 1, 4, none⟩ = false := Lib.frozen_of_heap hc7 4
                      go_simp; refine hK _ _ ?_; clear hK K
                      refine any_one 7 (by kernel_rfl) rfl (by rfl) (fun K hK => ?_); go_simp; refine hK _ _ ?_; clear hK K
                      refine any_one 8 (by kernel_rfl) rfl (by rfl) (fun K hK => ?_); go_simp; refine hK _ _ ?_; clear hK K
                      refine wpAny_done (by kernel_rfl) ?_ _
                      go_wp2_with fail
                      go_meet
                      case rel =>
                        have hat' := HAT.out
                        rw [← HNA.out] at hat' hg7 ho7
                        obtain ⟨k1, k2⟩ := att_new (t := t) hat' HRD.out hBw hRlt hb5 hg7 ho7
                        rw [HNA.out] at k1 k2
                        exact ⟨acc, us, .slice none 0 0, [], _, hat'.hl, k1, HPUT.out, k2, Nat.le_refl _, by simp; omega, fun x hx => by have := HVL.out x hx; simp at this; omega⟩
                    · go_simp; go_wp2_with (go_at_call 145; refine Calls.mono (show Calls _ _ _ _ _ from kcl) ?_; rintro e w5 ⟨rfl, hb5'⟩; have hb5 : Below wc.heap.size wc w5 := (Below.drew (Below.refl _ _)).trans hb5'; have s0 : w5.cell? ⟨N + 1, 4, none⟩ = some (.slice aA n cA) := (hb5.cell (p := ⟨N + 1, 4, none⟩) hsz2).trans c4; have ho5 := own_below ho2 hb5; have hs5 := hb5.size)
                      refine any_take 4 (.agg #[.string ⟨typ.toArray⟩, .slice none 0 0]) rfl (by kernel_rfl) (by kernel_rfl) (by kernel_rfl) (fun _ _ _ h => h) (by rfl) (fun w => by go_simp) (fun K hK => ?_); go_simp; refine hK _ _ ?_; clear hK K
                      refine any_two 1 5 (by kernel_rfl) rfl (by rfl) rfl (by rfl) (fun K hK => ?_) (fun K hK => ?_)
                      · go_simp; refine hK _ _ ?_; clear hK K
                        refine any_one 5 (by kernel_rfl) rfl (by rfl) (fun K hK => ?_); go_simp; refine hK _ _ ?_; clear hK K
                        refine any_one 6 (by kernel_rfl) rfl (by rfl) (fun K hK => ?_)
                        refine wp_append_lies _ _ _ _ (by rfl) (N + 2) 179 i0 _ 2 40 Tryz.underlying44 hi0 hz0 hz1 hz2 rfl (by omega) (.slice aA n cA) n (flatA acc us) (by rfl) (ho5.alloc _) ⟨w5.heap.size, 0, none⟩ 1 1 [.string ⟨typ.toArray⟩, .slice none 0 0] (by rfl) (by rfl) (World.news_of_block (alloc_at _ _ _ rfl)) (by intro x hx; simp at hx; rcases hx with rfl | rfl <;> rfl) (by omega) (by unfold maxLen; omega) (by omega) (by simp; omega) (w5.heap.size + 1) (by simp) ?_
                        intro g7 cap7 w7 ho7 hg7 hat7 hlt7
                        have hc7 := (hg7.block (N + 1) (by simp; omega) (fun e => by have := (ho5.lt (N + 1) e.symm).1; omega)).trans ((Lib.alloc_old _ _ _ (by omega)).trans ((hb5.block (N + 1) hsz2).trans HAT.out.hc))
                        have r4 : w7.cell? ⟨N + 1, 4, none⟩ = some (.slice aA n cA) := by rw [Lib.cell_of_heap hc7]; rfl
                        have r5 : w7.frozen? ⟨N + 1, 4, none⟩ = false := Lib.frozen_of_heap hc7 4
                        go_simp; refine hK _ _ ?_; clear hK K
                        refine any_one 7 (by kernel_rfl) rfl (by rfl) (fun K hK => ?_); go_simp; refine hK _ _ ?_; clear hK K
                        refine any_one 8 (by kernel_rfl) rfl (by rfl) (fun K hK => ?_); go_simp; refine hK _ _ ?_; clear hK K
                        refine wpAny_done (by kernel_rfl) ?_ _
                        go_wp2_with fail
                        go_meet
                        case rel =>
                          have hat' := HAT.out
                          rw [← HNA.out] at hat' hg7 ho7
                          obtain ⟨k1, k2⟩ := att_new (t := t) hat' HRD.out hBw hRlt hb5 hg7 ho7
                          rw [HNA.out] at k1 k2
                          exact ⟨acc, us, .slice none 0 0, [], _, hat'.hl, k1, HPUT.out, k2, Nat.le_refl _, by simp; omega, fun x hx => by have := HVL.out x hx; simp at this; omega⟩
                      · go_simp; refine hK _ _ ?_; clear hK K
                        have s0' : (w5.alloc (.cells #[.string ⟨typ.toArray⟩, .slice none 0 0] 179)).cell? ⟨N + 1, 4, none⟩ = some (.slice aA n cA) := (((Below.refl w5.heap.size w5).alloc (Nat.le_refl _) _).cell (p := ⟨N + 1, 4, none⟩) (by show N + 1 < _; omega)).trans s0
                        refine any_one 1 (by kernel_rfl) rfl (by rfl) (fun K hK => ?_); go_simp; refine hK _ _ ?_; clear hK K
                        refine any_one 6 (by kernel_rfl) rfl (by rfl) (fun K hK => ?_)
                        refine wp_append_lies _ _ _ _ (by rfl) (N + 2) 179 i0 _ 2 40 Tryz.underlying44 hi0 hz0 hz1 hz2 rfl (by omega) (.slice aA n cA) n (flatA acc us) (by rfl) (ho5.alloc _) ⟨w5.heap.size, 0, none⟩ 1 1 [.string ⟨typ.toArray⟩, .slice none 0 0] (by rfl) (by rfl) (World.news_of_block (alloc_at _ _ _ rfl)) (by intro x hx; simp at hx; rcases hx with rfl | rfl <;> rfl) (by omega) (by unfold maxLen; omega) (by omega) (by simp; omega) (w5.heap.size + 1) (by simp) ?_
                        intro g7 cap7 w7 ho7 hg7 hat7 hlt7
                        have hc7 := (hg7.block (N + 1) (by simp; omega) (fun e => by have := (ho5.lt (N + 1) e.symm).1; omega)).trans ((Lib.alloc_old _ _ _ (by omega)).trans ((hb5.block (N + 1) hsz2).trans HAT.out.hc))
                        have r4 : w7.cell? ⟨N + 1, 4, none⟩ = some (.slice aA n cA) := by rw [Lib.cell_of_heap hc7]; rfl
                        have r5 : w7.frozen? ⟨N + 1, 4, none⟩ = false := Lib.frozen_of_heap hc7 4
                        go_simp; refine hK _ _ ?_; clear hK K
                        refine any_one 7 (by kernel_rfl) rfl (by rfl) (fun K hK => ?_); go_simp; refine hK _ _ ?_; clear hK K
                        refine any_one 8 (by kernel_rfl) rfl (by rfl) (fun K hK => ?_); go_simp; refine hK _ _ ?_; clear hK K
                        refine wpAny_done (by kernel_rfl) ?_ _
                        go_wp2_with fail
                        go_meet
                        case rel =>
                          have hat' := HAT.out
                          rw [← HNA.out] at hat' hg7 ho7
                          obtain ⟨k1, k2⟩ := att_new (t := t) hat' HRD.out hBw hRlt hb5 hg7 ho7
                          rw [HNA.out] at k1 k2
                          exact ⟨acc, us, .slice none 0 0, [], _, hat'.hl, k1, HPUT.out, k2, Nat.le_refl _, by simp; omega, fun x hx => by have := HVL.out x hx; simp at this; omega⟩
                  | false =>
                    have h := HNW.out
                    obtain ⟨init, vs, hcon⟩ : ∃ init vs, acc = init ++ [(typ, vs)] := by
                      unfold newB at h
                      split at h
                      · cases h
                      · rename_i a hg
                        obtain ⟨ty, vs⟩ := a
                        obtain ⟨init, hi⟩ := List.getLast?_eq_some_iff.1 hg
                        simp at h
                        subst h
                        exact ⟨init, vs, hi⟩
                    subst hcon
                    obtain ⟨usI, u, hus⟩ : ∃ usI u, us = usI ++ [u] := by
                      have hus := HAT.out.hl
                      rcases List.eq_nil_or_concat us with h | ⟨a, b, h⟩
                      · rw [h] at hus; simp at hus
                      · exact ⟨a, b, by rw [h, List.concat_eq_append]⟩
                    subst hus
                    have huI : usI.length = init.length := by have := HAT.out.hl; simpa using this
                    clear h
                    go_wp2_with fail
                    go_meet
                    case rel =>
                      refine ⟨init, usI, u, vs, _, huI, HAT.out, by simp [putA], HRD.out, by simp, ?_, fun x hx => ?_⟩
                      · have := HVL.out (typ, vs) (by simp)
                        simp at this
                        omega
                      · have := HVL.out x (by simp [hx])
                        simp at this
                        omega
                case rest =>
                  obtain ⟨init, usI, u, vs, vA, huI, hat, hput, hrdq, hil, hvs, hini⟩ := hcut
                  have ho := hat.ho
                  have hlen1 : (init ++ [(typ, vs)]).length = init.length + 1 := by simp
                  rw [hlen1] at ho
                  obtain ⟨gA, capA, hvA, hgA1, hgA2⟩ := ho.form (by omega)
                  subst hvA
                  have hlu : (usI ++ [u])[init.length]? = some u := by rw [← huI]; simp
                  have hla : (init ++ [(typ, vs)])[init.length]? = some (typ, vs) := by simp
                  obtain ⟨q0, q1⟩ := flatA_get _ _ init.length (typ, vs) u hla hlu
                  obtain ⟨m1, m2⟩ := own_cell ho q1
                  have hou := hat.hs init.length (typ, vs) u hla hlu
                  simp only at hou
                  obtain ⟨au, cu, hu⟩ := own_form hou
                  obtain ⟨⟨_, _, _, _, d4, _⟩, _⟩ := ten_cells hat.hc
                  have hszx : N + 1 < wc.heap.size := (Array.getElem?_eq_some_iff.1 hat.hc).1
                  have HPUT := Lib.hid hput
                  have HATQ := Lib.hid hat
                  have HRDQ := Lib.hid hrdq
                  have hnq : init.length ≤ 1000000000 := by have := HNA.out; omega
                  have i1 : (0 : Int) ≤ (init.length : Int) := by omega
                  have i2 : (init.length : Int) < (init.length : Int) + 1 := by omega
                  have i4 : IntKind.i64.wrap ((init.length : Int) + 1 - 1) = (init.length : Int) := by
                    rw [show (init.length : Int) + 1 - 1 = (init.length : Int) by omega]
                    exact wraps_i64 _ (by omega) (by omega)
                  have i5 : IntKind.i64.wrap (init.length : Int) = (init.length : Int) := wraps_i64 _ (by omega) (by omega)
                  have hvs2 : vs.length + 1 ≤ 1000000000 := by omega
                  clear hput hat hrdq hlen1 q0 q1 hla hlu c4 f4 ho2 hsz2
                  have hgAB : ∃ cur, wc.heap[gA]? = some (.cells cur 179 (0, 0)) := by
                    rcases id ho.2 with ⟨h1, _⟩ | ⟨g', cap', cur, hv, _, hg', _⟩
                    · cases h1
                    · cases hv
                      exact ⟨cur, hg'⟩
                  obtain ⟨curA, hcurA⟩ := hgAB
                  have hneA : u.ownBlock ≠ some gA := own_ne hou hcurA (by decide)
                  subst hu
                  go_upto_region 21 with fail
                  go_wp2_with (at_builtin; refine wpList_append_lies _ rfl (.tmp 117) (.tmp 119) 58 rfl (N + 2) 9 iS (.string ⟨#[]⟩) 1 16 Tryz.underlying58 hiS hy0 hy1 hy2 rfl (by omega) (.slice au vs.length cu) vs.length (sV vs) rfl (hou.alloc _) ⟨wc.heap.size, 0, none⟩ 1 1 [.string ⟨v.toArray⟩] rfl rfl (cell_one_new _ _ _) ?d2 (by omega) ?d3 ?d4 ?d5 (wc.heap.size + 1) (by simp) ?_)
                  case d2 => intro x hx; simp at hx; subst hx; rfl
                  case d3 => unfold maxLen; omega
                  case d4 => omega
                  case d5 => simp; omega
                  intro g5 cap5 w9 ho9 hg9 hat9 hlt9
                  have hA9 := (hg9.block gA (by simp; omega) (fun e => hneA e.symm)).trans (Lib.alloc_old _ _ _ hgA2)
                  have n1 : w9.cell? ⟨gA, init.length * 2 + 1, none⟩ = some (.slice au vs.length cu) := (World.cell?_of_block (a := ⟨gA, init.length * 2 + 1, none⟩) hA9).trans m1
                  have n2 : w9.frozen? ⟨gA, init.length * 2 + 1, none⟩ = false := (World.frozen?_of_block (a := ⟨gA, init.length * 2 + 1, none⟩) hA9).trans m2
                  obtain ⟨k1, k2⟩ := att_put huI HATQ.out HRDQ.out hBw hRlt hg9 ho9 hat9
                  have K1 := Lib.hid k1
                  have K2 := Lib.hid k2
                  clear k1 k2 m1 m2
                  go_wp2_with fail
                  go_roundw
                  case rel =>
                    repeat apply Exists.intro
                    refine ⟨?_, rfl⟩
                    refine ⟨init ++ [(typ, vs ++ [v])], _, t, _, K1.out, K2.out, by rw [HADD.out, HPUT.out], ?_, fun x hx => ?_, HLNT.out⟩
                    · rw [List.length_append, List.length_singleton]
                      have := HNA.out
                      omega
                    · rcases List.mem_append.1 hx with hx | hx
                      · exact hini x hx
                      · simp at hx
                        subst hx
                        simp
                        omega
                  case measure =>
                    have h1 := lenP_at K2.out
                    have h2 := HLP.out
                    simp [h1, h2]
      ·
        obtain ⟨⟨c0, c1, c2, c3, c4, c5, c6, c7, c8, c9⟩, _⟩ := ten_cells hrk.hc
        obtain ⟨⟨n0, n1, n2, n3, n4, n5, n6, n7, n8, n9⟩, z0, z1, z2, z3, z4, z5, z6, z7, z8, z9⟩ := ten_cells hrk.hn
        go_wp2_with fail
        refine bodyPost_ret (v := .agg (chgA (recK v1 v2 v3 1 l4) (.slice none 0 0) (.slice none 0 0))) (by simp [results, Tryz.results32, go_sem, n0, n1, n2, n3, n4, n5, n6, n7, n8, n9, chgA, recK]) rfl ?_
        rw [← HPR.out]
        unfold RecPost
        rw [HRR.out, HNN.out]
        exact ⟨hrk.hx.trans (BelowX.of_below (put10_below _ _ _ _ _ _ _ _ _ _ _ _)), _, _, rfl, RecO.nil _ _ _ rfl rfl⟩
      · obtain ⟨c0, f0⟩ := hrk.cell 3 _ rfl
        have hszr := hrk.size
        go_wp2_with fail
        refine Calls.mono (mod_any R B l4 wr hrk.hr (by omega) (fun p hp => (HL4.out p hp).2) hl4) ?_
        intro e w10 hpost
        obtain ⟨k0, ty0, a0, n0, p0, ok0, rfl, hx0, hm0⟩ := modPost_form hpost
        clear hpost c0 f0
        have hcC := (hx0.block (N + 1) (by omega) (by omega)).trans hrk.hc
        have hcN := (hx0.block N (by omega) (by omega)).trans hrk.hn
        have hxx := hrk.hx.trans (hx0.mono (by omega))
        have hb11 : Below w10.heap.size w10 (w10.alloc (.cells #[.int .i64 k0, .string ⟨ty0.toArray⟩, .slice a0 n0 p0] 182)) := (Below.refl _ _).alloc (Nat.le_refl _) _
        have hk11 : (w10.alloc (.cells #[.int .i64 k0, .string ⟨ty0.toArray⟩, .slice a0 n0 p0] 182)).heap[w10.heap.size]? = some (.cells #[.int .i64 k0, .string ⟨ty0.toArray⟩, .slice a0 n0 p0] 182 (0, 0)) := alloc_at _ _ _ rfl
        have hsz10 := hx0.size
        have hpe := pend_of (N := N) (by omega) hm0 hk11 (fun t ht => ht.kept (fun j hj => hb11.block j (by omega))) (KeepS.below hb11)
        have hcC2 := (hb11.block (N + 1) (by omega)).trans hcC
        have hcN2 := (hb11.block N (by omega)).trans hcN
        have hxx2 := hxx.trans (BelowX.of_below (hb11.mono (by omega)))
        have hXlt : N + 1 < w10.heap.size := by omega
        go_wp2_with fail
        generalize w10.alloc (.cells #[.int .i64 k0, .string ⟨ty0.toArray⟩, .slice a0 n0 p0] 182) = w11 at hpe hcC2 hcN2 hxx2 ⊢
        generalize w10.heap.size = X0 at hpe hXlt ⊢
        clear hm0 hx0 hcC hcN hxx hb11 hk11 hsz10 hszr
        obtain ⟨i0, hi0, hz0, hz1, hz2⟩ := info_parts Tryz.infoMod
        go_loopw [12, 13] (fun s12 s13 wq => MR R B N w v1 v2 v3 l4 s12 s13 wq) (fun s12 s13 wq => modN R s13 wq)
        case atStart => exact ⟨[], [], l4, X0, N, .slice none 0 0, rfl, hXlt, rfl, by simp, HL4.out, hcC2, hcN2, hxx2, World.ownsRow_nil _ _ _ _, (fun g hg => by cases hg), rfl, (fun j m u hj => by cases hj), ⟨Nat.le_refl _, Dist.nil, fun i u h => by cases h⟩, hpe⟩
        case round =>
          obtain ⟨ms, us, l0, X, P, vM, rfl, hX, hmods, hle, hln, hC, hNb, hxr, hor, hob, hul, hst, hPP, hp⟩ := hrel
          clear hcC2 hcN2 hxx2 hpe hrk
          unfold MPend at hp
          cases hmr : modR l0 with
          | none =>
            rw [hmr] at hp
            subst hp
            have hms : modsR l4.length l4 = ms := by
              rw [hmods]
              cases l0 with
              | nil => simp [modsR]
              | cons y r =>
                have : modsR (y :: r).length (y :: r) = [] := by
                  simp only [List.length_cons, modsR, hmr]
                rw [this, List.append_nil]
            have hrK : recK v1 v2 v3 2 l4 = ⟨v1, v2, v3, 2, [], ms, [], [], false, false⟩ := by simp [recK, hms]
            have HRK := Lib.hid hrK
            obtain ⟨aM, cM, hvM⟩ := own_form hor
            subst hvM
            have hgr := put10_grown wr N (.string ⟨v1.toArray⟩) (.string ⟨v2.toArray⟩) (.string ⟨v3.toArray⟩) (.int .i64 2) (.slice none 0 0) (.slice aM ms.length cM) (.string ⟨#[]⟩) (.string ⟨#[]⟩) (.bool false) (.bool false)
            have hor9 := hor.kept hgr (.inr (fun e => by have := (hor.lt N e).1; omega))
            have hst9 := fun (j : Nat) (m : Md) (u : Value) h1 h2 => (hst j m u h1 h2).keep (KeepS.but hNb (by decide) (fun j hj hne => hgr.block j hj (fun e => hne (by injection e))))
            have HMO := Lib.hid (show RecO N _ (.slice none 0 0) (.slice aM ms.length cM) ⟨v1, v2, v3, 2, [], ms, [], [], false, false⟩ from ⟨⟨[], World.ownsRow_nil _ _ _ _, rfl, (fun j x u h => by cases h), Dist.nil⟩, ⟨us, own_lower hor9 (by omega), hul, hst9, hPP.2.1⟩, .inl rfl⟩)
            clear hor9 hst9
            have hfin := hxr.trans (BelowX.of_below (R := R) (put10_below wr N (.string ⟨v1.toArray⟩) (.string ⟨v2.toArray⟩) (.string ⟨v3.toArray⟩) (.int .i64 2) (.slice none 0 0) (.slice aM ms.length cM) (.string ⟨#[]⟩) (.string ⟨#[]⟩) (.bool false) (.bool false)))
            obtain ⟨⟨c0, c1, c2, c3, c4, c5, c6, c7, c8, c9⟩, _⟩ := ten_cells hC
            obtain ⟨⟨n0, n1, n2, n3, n4, n5, n6, n7, n8, n9⟩, z0, z1, z2, z3, z4, z5, z6, z7, z8, z9⟩ := ten_cells hNb
            clear hmods hms hrK hmr
            go_wp2_with fail
            refine bodyPost_ret (v := .agg (chgA ⟨v1, v2, v3, 2, [], ms, [], [], false, false⟩ (.slice none 0 0) (.slice aM ms.length cM))) (by simp [results, Tryz.results32, go_sem, n0, n1, n2, n3, n4, n5, n6, n7, n8, n9, chgA]) rfl ?_
            rw [← HPR.out]
            unfold RecPost
            rw [HRR.out, HRK.out, HNN.out]
            exact ⟨hfin, _, _, rfl, HMO.out⟩
          | some mt =>
            obtain ⟨m, t⟩ := mt
            rw [hmr] at hp
            obtain ⟨u, rfl, hRt, hXb, hSu⟩ := hp
            obtain ⟨au, cu, rfl⟩ := own_form hSu
            have hPb : ∀ (i : Nat) (x : Value), (us ++ [.slice au m.2.2.length cu])[i]? = some x → ∀ k, x.ownBlock = some k → k < wr.heap.size := by
              intro i x hx k hk
              by_cases hi : i < us.length
              · rw [List.getElem?_append_left hi] at hx
                exact ((hst i ms[i] x (List.getElem?_eq_getElem (by omega)) hx).lt k hk).2
              · rw [List.getElem?_append_right (by omega)] at hx
                have : x = .slice au m.2.2.length cu := by simpa using List.mem_of_getElem? hx
                subst this
                exact (hSu.lt k hk).2
            have hPd : Dist (us ++ [.slice au m.2.2.length cu]) := hPP.2.1.snoc hPP.2.2 (fun k hk => (hSu.lt k hk).1)
            have hSuN := hSu.mono hPP.1
            have HPB := Lib.hid hPb
            have HPD := Lib.hid hPd
            clear hPb hPd hPP
            have hlt := modR_lt l0 m t hmr
            have hms : modsR l0.length l0 = m :: modsR t.length t := by
              cases l0 with
              | nil => cases hmr
              | cons y r =>
                have hlt' : t.length ≤ r.length := by simp at hlt; omega
                simp only [List.length_cons, modsR, hmr]
                rw [modsR_fuel r.length t.length t hlt' (Nat.le_refl _)]
            rw [hms] at hmods
            have hlnt : ∀ p ∈ t, Ln p := modR_ln hmr hln
            have HMODS := Lib.hid hmods
            have HLNT := Lib.hid hlnt
            have hlp := lenP_at hRt
            have HLP := Lib.hid hlp
            have hXs : X < wr.heap.size := (Array.getElem?_eq_some_iff.1 hXb).1
            obtain ⟨x0, x1, x2, _, _, _⟩ := mod_cells hXb
            obtain ⟨⟨_, _, _, _, _, c5, _, _, _, _⟩, _, _, _, _, _, g5f, _, _, _, _⟩ := ten_cells hC
            have hneN : vM.ownBlock ≠ some N := fun e => by have := (hor.lt N e).1; omega
            have hneC : vM.ownBlock ≠ some (N + 1) := fun e => by have := (hor.lt (N + 1) e).1; omega
            have hneR : vM.ownBlock ≠ some R := fun e => by have := (hor.lt R e).1; omega
            have hneX : vM.ownBlock ≠ some X := fun e => by have := hob X e; omega
            have hol := hor.lt
            have hHST := Lib.hid hst
            clear hmr hmods hms hlnt hlp hln hst hSu
            go_wp2_with (at_builtin; refine wpList_append_lies _ rfl (.tmp 137) (.tmp 139) 45 rfl (N + 2) 182 i0 (.agg #[.int .i64 0, .string ⟨#[]⟩, .slice none 0 0]) 3 48 Tryz.underlying45 hi0 hz0 hz1 hz2 rfl (by omega) vM ms.length (flatM ms us) rfl (hor.alloc _) ⟨wr.heap.size, 0, none⟩ 1 1 [.int .i64 m.1, .string ⟨m.2.1.toArray⟩, .slice au m.2.2.length cu] rfl rfl (World.news_of_block (alloc_at _ _ _ rfl)) ?d2 (by omega) ?d3 ?d4 ?d5 (wr.heap.size + 1) (by simp) ?_)
            case d2 => intro x hx; simp at hx; rcases hx with rfl | rfl | rfl <;> rfl
            case d3 => unfold maxLen; omega
            case d4 => omega
            case d5 => simp; omega
            intro g5 cap5 w5 ho5 hg5 hat5 hlt5
            have hba : Below wr.heap.size wr (wr.alloc (.cells #[.int .i64 m.1, .string ⟨m.2.1.toArray⟩, .slice au m.2.2.length cu] 182)) := (Below.refl _ _).alloc (Nat.le_refl _) _
            have hkeep : ∀ j, j < wr.heap.size → some j ≠ vM.ownBlock → w5.heap[j]? = wr.heap[j]? := fun j hj hne => (hg5.block j (by simp; omega) hne).trans (Lib.alloc_old _ _ _ hj)
            have hC5 := (hkeep (N + 1) (by omega) (fun e => hneC e.symm)).trans hC
            have hN5 := (hkeep N (by omega) (fun e => hneN e.symm)).trans hNb
            have hX5 := (hkeep X hXs (fun e => hneX e.symm)).trans hXb
            have hs5 : wr.heap.size < w5.heap.size := by have := hg5.size; simp at this; omega
            have hR5 : RdAt w5 R B t := by
              refine hRt.kept (fun j hj => hkeep j (by omega) (fun e => ?_))
              rcases hj with hj | hj
              · have := (hol j e.symm).1
                omega
              · subst hj
                exact hneR e.symm
            have hx5 : BelowX R N w w5 := (hxr.trans (BelowX.of_below ((Below.refl _ _).alloc (by omega) _))).trans (BelowX.of_grown hg5 (by simp; omega) (fun k hk => .inr (by have := (hol k hk).1; omega)))
            have hK5 : KeepS wr w5 := (KeepS.below hba).trans (KeepS.grown (hor.alloc _) (by decide) hg5)
            have hg5X : g5 < w5.heap.size := hlt5
            have hg5N : N + 1 < g5 := by have := (ho5.lt g5 rfl).1; omega
            have hba6 : Below (N + 1) w5 (w5.setCell ⟨N + 1, 5, none⟩ (.slice (some ⟨g5, 0, none⟩) (ms.length + 1) cap5)) := (Below.refl _ _).setCell (p := ⟨N + 1, 5, none⟩) (Nat.le_refl _) _
            have hC6 := setCell_at (i := 5) (u := .slice (some ⟨g5, 0, none⟩) (ms.length + 1) cap5) hC5
            have hN6 := (hba6.block N (by omega)).trans hN5
            have hX6 := (Below.heap_setCell w5 ⟨N + 1, 5, none⟩ (.slice (some ⟨g5, 0, none⟩) (ms.length + 1) cap5) X (by show X ≠ N + 1; omega)).trans hX5
            have ho6 := ho5.kept (grown_set w5 (N + 1) 5 (.slice (some ⟨g5, 0, none⟩) (ms.length + 1) cap5)) (.inr (fun e => by simp [Value.ownBlock] at e; omega))
            have hR6 : RdAt (w5.setCell ⟨N + 1, 5, none⟩ (.slice (some ⟨g5, 0, none⟩) (ms.length + 1) cap5)) R B t := hR5.kept (fun j hj => hba6.block j (by omega))
            have hx6 := hx5.trans (BelowX.of_below (R := R) (hba6.mono (by omega)))
            have hK6 := hK5.trans (KeepS.but hC5 (by decide) (fun j _ hne => Below.heap_setCell w5 ⟨N + 1, 5, none⟩ (.slice (some ⟨g5, 0, none⟩) (ms.length + 1) cap5) j hne))
            have hs6 : (w5.setCell ⟨N + 1, 5, none⟩ (.slice (some ⟨g5, 0, none⟩) (ms.length + 1) cap5)).heap.size = w5.heap.size := by simp
            clear x0 x1 x2
            have x5 : w5.cell? ⟨N + 1, 5, none⟩ = some vM := by rw [Lib.cell_of_heap hC5]; rfl
            have z5 : w5.frozen? ⟨N + 1, 5, none⟩ = false := Lib.frozen_of_heap hC5 5
            obtain ⟨x0, x1, x2, _, _, _⟩ := mod_cells hX5
            go_upto_region 25 with fail
            clear x0 x1 x2 x5 z5 c5 g5f
            generalize w5.setCell ⟨N + 1, 5, none⟩ (.slice (some ⟨g5, 0, none⟩) (ms.length + 1) cap5) = w6 at hba6 hC6 hN6 hX6 ho6 hR6 hx6 hK6 hs6 ⊢
            have hb7 : Below w6.heap.size w6 (w6.alloc (.cells #[.int .i64 m.1, .string ⟨m.2.1.toArray⟩, .slice au m.2.2.length cu] 182)) := (Below.refl _ _).alloc (Nat.le_refl _) _
            have hk7 : (w6.alloc (.cells #[.int .i64 m.1, .string ⟨m.2.1.toArray⟩, .slice au m.2.2.length cu] 182)).heap[w6.heap.size]? = some (.cells #[.int .i64 m.1, .string ⟨m.2.1.toArray⟩, .slice au m.2.2.length cu] 182 (0, 0)) := alloc_at _ _ _ rfl
            generalize w6.alloc (.cells #[.int .i64 m.1, .string ⟨m.2.1.toArray⟩, .slice au m.2.2.length cu] 182) = w7 at hb7 hk7 ⊢
            have hC7 := (hb7.block (N + 1) (by omega)).trans hC6
            have hN7 := (hb7.block N (by omega)).trans hN6
            have ho7 := own_below ho6 hb7
            have hR7 : RdAt w7 R B t := hR6.kept (fun j hj => hb7.block j (by omega))
            have hx7 := hx6.trans (BelowX.of_below (R := R) (hb7.mono (by omega)))
            have hK7 := hK6.trans (KeepS.below hb7)
            rw [hs6] at hk7
            have hXX : g5 < w5.heap.size := by omega
            have hXN : N + 1 < w5.heap.size := by omega
            have hX7 : w5.heap.size < w7.heap.size := (Array.getElem?_eq_some_iff.1 hk7).1
            have hwr7 : wr.heap.size ≤ w7.heap.size := by omega
            generalize w5.heap.size = Y at hk7 hXX hXN hX7 ⊢
            have htl4 : t.length ≤ 1000000000 := by omega
            clear hC5 hN5 hX5 hR5 hx5 hK5 hba6 hC6 hN6 hX6 ho6 hR6 hx6 hK6 hs6 hb7 hkeep hba
            go_wp2_with fail
            refine Calls.mono (mod_any R B t w7 hR7 (by omega) (fun p hp => (HLNT.out p hp).2) htl4) ?_
            intro e w8 hpost
            obtain ⟨k1, ty1, a1, n1, p1, ok1, rfl, hx8, hm8⟩ := modPost_form hpost
            clear hpost
            have hC8 := (hx8.block (N + 1) (by omega) (by omega)).trans hC7
            have hN8 := (hx8.block N (by omega) (by omega)).trans hN7
            have hY8 := (hx8.block Y (by omega) (by omega)).trans hk7
            have hRt8 : ∃ v, w7.heap[R]? = some (.cells #[v] 84 (0, 0)) := by obtain ⟨v, h1, _⟩ := hR7; exact ⟨v, h1⟩
            obtain ⟨vr, hvr⟩ := hRt8
            have hK8 : KeepS w7 w8 := KeepS.but hvr (by decide) (fun j hj hne => hx8.block j hj hne)
            have ho8 := ho7.kept (w' := w8) (row := some R) ⟨hx8.os, hx8.tape, hx8.output, hx8.size, fun j hj hne => hx8.block j hj (fun e => hne (by rw [e]))⟩ (.inr (fun e => by simp [Value.ownBlock] at e; omega))
            have hxx8 := hx7.trans (hx8.mono (by omega))
            have hs8 := hx8.size
            obtain ⟨x0, x1, x2, z0, z1, z2⟩ := mod_cells hY8
            clear hC7 hN7 hk7 ho7 hR7 hx7 hvr
            go_wp2_with fail
            clear x0 x1 x2 z0 z1 z2
            have hb9 : Below Y w8 (((w8.setCell ⟨Y, 0, none⟩ (.int .i64 k1)).setCell ⟨Y, 1, none⟩ (.string ⟨ty1.toArray⟩)).setCell ⟨Y, 2, none⟩ (.slice a1 n1 p1)) :=
              (((Below.refl Y w8).setCell (p := ⟨Y, 0, none⟩) (Nat.le_refl _) _).setCell (p := ⟨Y, 1, none⟩) (Nat.le_refl _) _).setCell (p := ⟨Y, 2, none⟩) (Nat.le_refl _) _
            have hg9 : w8.grownBy (((w8.setCell ⟨Y, 0, none⟩ (.int .i64 k1)).setCell ⟨Y, 1, none⟩ (.string ⟨ty1.toArray⟩)).setCell ⟨Y, 2, none⟩ (.slice a1 n1 p1)) (some Y) :=
              ((grown_set _ Y 0 _).trans (grown_set _ Y 1 _)).trans (grown_set _ Y 2 _)
            have hY9 := setCell_at (i := 2) (u := .slice a1 n1 p1) (setCell_at (i := 1) (u := .string ⟨ty1.toArray⟩) (setCell_at (i := 0) (u := .int .i64 k1) hY8))
            have hK9 := hK8.trans (KeepS.but hY8 (by decide) (fun j hj hne => hg9.block j hj (fun e => hne (by injection e))))
            have hKall := (hK7.trans hK9)
            have hpe := pend_of (N := w7.heap.size) (Nat.le_refl _) hm8 hY9 (fun t' ht => ht.kept (fun j hj => hb9.block j (by omega))) (KeepS.but hY8 (by decide) (fun j hj hne => hg9.block j hj (fun e => hne (by injection e))))
            have hC9 := (hb9.block (N + 1) (by omega)).trans hC8
            have hN9 := (hb9.block N (by omega)).trans hN8
            have hxx9 := hxx8.trans (BelowX.of_below (R := R) (hb9.mono (by omega)))
            have ho9 := ho8.kept hg9 (.inr (fun e => by simp [Value.ownBlock] at e; omega))
            have hmea : lenP R (((w8.setCell ⟨Y, 0, none⟩ (.int .i64 k1)).setCell ⟨Y, 1, none⟩ (.string ⟨ty1.toArray⟩)).setCell ⟨Y, 2, none⟩ (.slice a1 n1 p1)) + 1 < t.length + 1 ∨ ok1 = false := by
              cases hmt : modR t with
              | none => rw [hmt] at hm8; exact .inr hm8
              | some mt' =>
                obtain ⟨m', t'⟩ := mt'
                rw [hmt] at hm8
                have h1 := modR_lt t m' t' hmt
                have h2 : RdAt (((w8.setCell ⟨Y, 0, none⟩ (.int .i64 k1)).setCell ⟨Y, 1, none⟩ (.string ⟨ty1.toArray⟩)).setCell ⟨Y, 2, none⟩ (.slice a1 n1 p1)) R B t' := hm8.2.2.2.1.kept (fun j hj => hb9.block j (by omega))
                left
                rw [lenP_at h2]
                omega
            clear hm8 hY8 hY9 hC8 hN8
            go_roundw
            case rel =>
              refine ⟨ms ++ [m], us ++ [.slice au m.2.2.length cu], t, Y, w7.heap.size, .slice (some ⟨g5, 0, none⟩) (ms.length + 1) cap5, rfl, hXN, ?_, ?_, HLNT.out, hC9, hN9, hxx9, ?_, ?_, ?_, ?_, ⟨by omega, HPD.out, fun i u hi k hk => by have := HPB.out i u hi k hk; omega⟩, hpe⟩
              · rw [HMODS.out]; simp
              · rw [List.length_append]; simp; omega
              · rw [flatM_snoc _ _ _ _ hul, List.length_append]; exact ho9
              · intro g hg
                simp only [Value.ownBlock, Option.some.injEq] at hg
                omega
              · rw [List.length_append, List.length_append, hul]; rfl
              · intro j y v h1 h2
                by_cases hj : j < ms.length
                · rw [List.getElem?_append_left hj] at h1
                  rw [List.getElem?_append_left (by omega)] at h2
                  exact (hHST.out j y v h1 h2).keep hKall
                · have hj2 : j = ms.length := by
                    have := (List.getElem?_eq_some_iff.1 h1).1
                    rw [List.length_append] at this
                    simp at this
                    omega
                  subst hj2
                  rw [List.getElem?_append_right (Nat.le_refl _)] at h1
                  rw [List.getElem?_append_right (by omega)] at h2
                  simp at h1
                  simp [hul] at h2
                  subst h1 h2
                  exact hSuN.keep hKall
            case measure =>
              have h1 := HLP.out
              rcases hmea with h | h
              · cases ok1 <;> (simp [modN, boolN, h1]; try omega)
              · subst h
                simp [modN, boolN]
      · obtain ⟨c0, f0⟩ := hrk.cell 3 _ rfl
        go_wp2_with fail
        refine Calls.mono (next_ln R B wRdn l4 wr hrk.hr (by have := hrk.size; omega) HL4.out hl4) ?_
        rintro e w10 ⟨rfl, hr, hg⟩
        replace hrk := hrk.next hRlt hr hg
        have HL5 := Lib.hid (nxL_all (n := wRdn) HL4.out)
        have hl5 := Nat.le_trans (nxL_le wRdn l4) hl4
        obtain ⟨l5, e5⟩ : ∃ x, nxL wRdn l4 = x := ⟨_, rfl⟩
        obtain ⟨v5, i5⟩ : ∃ x, nxV wRdn l4 = x := ⟨_, rfl⟩
        rw [i5]
        rw [e5] at hrk HL5 hl5
        have E5 := Lib.hid e5
        have I5 := Lib.hid i5
        clear hr hg e5 i5 c0 f0
        obtain ⟨c0, f0⟩ := hrk.cell 6 _ rfl
        go_wp2_with fail
        replace hrk := hrk.set hRlt hBw 6 (.string ⟨v5.toArray⟩)
        generalize w10.setCell ⟨N + 1, 6, none⟩ (.string ⟨v5.toArray⟩) = w11 at hrk ⊢
        clear c0 f0
        refine Calls.mono (next_ln R B wOld l5 w11 hrk.hr (by have := hrk.size; omega) HL5.out hl5) ?_
        rintro e w12 ⟨rfl, hr, hg⟩
        replace hrk := hrk.next hRlt hr hg
        have HL6 := Lib.hid (nxL_all (n := wOld) HL5.out)
        have hl6 := Nat.le_trans (nxL_le wOld l5) hl5
        obtain ⟨l6, e6⟩ : ∃ x, nxL wOld l5 = x := ⟨_, rfl⟩
        obtain ⟨v6, i6⟩ : ∃ x, nxV wOld l5 = x := ⟨_, rfl⟩
        rw [i6]
        rw [e6] at hrk HL6 hl6
        have E6 := Lib.hid e6
        have I6 := Lib.hid i6
        clear hr hg e6 i6
        obtain ⟨b6, hb6⟩ : ∃ b, nxB wOld l5 = b := ⟨_, rfl⟩
        rw [hb6]
        clear hb6
        obtain ⟨c0, f0⟩ := hrk.cell 8 _ rfl
        obtain ⟨dl, hdl⟩ : ∃ b, decide (v6 = [49]) = b := ⟨_, rfl⟩
        have hd2 : (v6 == [49]) = dl := by rw [← hdl]; exact Bool.eq_iff_iff.2 (by simp)
        have HDL := Lib.hid hdl
        clear hdl
        go_upto_region 33 with fail
        replace hrk := hrk.set hRlt hBw 8 (.bool dl)
        generalize w12.setCell ⟨N + 1, 8, none⟩ (.bool dl) = w13 at hrk ⊢
        clear c0 f0 hd2
        go_wp2_with fail
        refine Calls.mono (next_ln R B wSup l6 w13 hrk.hr (by have := hrk.size; omega) HL6.out hl6) ?_
        rintro e w14 ⟨rfl, hr, hg⟩
        replace hrk := hrk.next hRlt hr hg
        obtain ⟨v7, i7⟩ : ∃ x, nxV wSup l6 = x := ⟨_, rfl⟩
        obtain ⟨b7, j7⟩ : ∃ x, nxB wSup l6 = x := ⟨_, rfl⟩
        rw [i7, j7]
        have I7 := Lib.hid i7
        have J7 := Lib.hid j7
        clear hr hg i7 j7
        obtain ⟨c0, f0⟩ := hrk.cell 7 _ rfl
        obtain ⟨c1, f1⟩ := hrk.cell 9 _ rfl
        go_upto_region 34 with fail
        replace hrk := (hrk.set hRlt hBw 7 (.string ⟨v7.toArray⟩)).set hRlt hBw 9 (.bool b7)
        generalize (w14.setCell ⟨N + 1, 7, none⟩ (.string ⟨v7.toArray⟩)).setCell ⟨N + 1, 9, none⟩ (.bool b7) = w15 at hrk ⊢
        clear c0 f0 c1 f1
        have hrK : recK v1 v2 v3 3 l4 = ⟨v1, v2, v3, 3, [], [], v5, v7, dl, b7⟩ := by
          unfold recK
          rw [E5.out, I5.out, E6.out, I6.out, I7.out, J7.out]
          simp [HDL.out]
        have HRK := Lib.hid hrK
        clear hrK
        obtain ⟨⟨c0, c1, c2, c3, c4, c5, c6, c7, c8, c9⟩, _⟩ := ten_cells hrk.hc
        obtain ⟨⟨n0, n1, n2, n3, n4, n5, n6, n7, n8, n9⟩, z0, z1, z2, z3, z4, z5, z6, z7, z8, z9⟩ := ten_cells hrk.hn
        go_wp2_with fail
        refine bodyPost_ret (v := .agg (chgA ⟨v1, v2, v3, 3, [], [], v5, v7, dl, b7⟩ (.slice none 0 0) (.slice none 0 0))) (by simp [results, Tryz.results32, go_sem, n0, n1, n2, n3, n4, n5, n6, n7, n8, n9, chgA]) rfl ?_
        rw [← HPR.out]
        unfold RecPost
        rw [HRR.out, HRK.out, HNN.out]
        exact ⟨hrk.hx.trans (BelowX.of_below (put10_below _ _ _ _ _ _ _ _ _ _ _ _)), _, _, rfl, RecO.nil _ _ _ rfl rfl⟩
end Go.Proofs.YtegigcneimjimaaGreatDoor
