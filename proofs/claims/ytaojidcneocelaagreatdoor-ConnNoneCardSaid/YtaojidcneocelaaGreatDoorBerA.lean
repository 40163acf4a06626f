/- ber: elements in memory. -/
import Derived.Test.YtaojidcneocelaaGreatDoorPlainBer
namespace Go.Proofs.YtaojidcneocelaaGreatDoor
open Go.RowKit Go.Lib

mutual
/-- The cells of an element, and what is within it; P: where the lists lie. -/
def ElC (P : Nat → Prop) (w : World) : El → Nat → Nat → Prop
  | .mk c t k b ks, g, o => w.cell? ⟨g, o, none⟩ = some (.int .i64 c) ∧ w.cell? ⟨g, o + 1, none⟩ = some (.int .i64 t) ∧ w.cell? ⟨g, o + 2, none⟩ = some (.bool k) ∧ w.cell? ⟨g, o + 3, none⟩ = some (.string ⟨b.toArray⟩) ∧
      ∃ u, w.cell? ⟨g, o + 4, none⟩ = some u ∧ ∃ a cap, u = .slice a ks.length cap ∧ ks.length ≤ cap ∧ (ks ≠ [] → ∃ g' o', a = some ⟨g', o', none⟩ ∧ P g' ∧ ElsC P w ks g' o')
def ElsC (P : Nat → Prop) (w : World) : List El → Nat → Nat → Prop
  | [], _, _ => True
  | e :: r, g, o => ElC P w e g o ∧ ElsC P w r g (o + 5)
end
/-- A list of elements. -/
def KidsAt (P : Nat → Prop) (w : World) (v : Value) (ks : List El) : Prop :=
  ∃ a cap, v = .slice a ks.length cap ∧ ks.length ≤ cap ∧ (ks ≠ [] → ∃ g o, a = some ⟨g, o, none⟩ ∧ P g ∧ ElsC P w ks g o)
/-- An element as a value. -/
def elA (e : El) (u : Value) : Array Value := #[.int .i64 e.cls, .int .i64 e.tag, .bool e.cons, .string ⟨e.bytes.toArray⟩, u]
theorem cell_same {w w' : World} {g i : Nat} (h : w'.heap[g]? = w.heap[g]?) : w'.cell? ⟨g, i, none⟩ = w.cell? ⟨g, i, none⟩ := by
  simp only [World.cell?, h]
mutual
theorem ElC.kept {P Q : Nat → Prop} {w w' : World} (hP : ∀ g, P g → g < w.heap.size → w'.heap[g]? = w.heap[g]? ∧ Q g) : ∀ (e : El) (g o : Nat), w'.heap[g]? = w.heap[g]? → ElC P w e g o → ElC Q w' e g o
  | .mk c t k b ks, g, o, hg, h => by
    simp only [ElC] at h ⊢
    obtain ⟨h0, h1, h2, h3, u, h4, a, cap, hu, hc, hk⟩ := h
    refine ⟨(cell_same hg).trans h0, (cell_same hg).trans h1, (cell_same hg).trans h2, (cell_same hg).trans h3, u, (cell_same hg).trans h4, a, cap, hu, hc, fun hn => ?_⟩
    obtain ⟨g', o', ha, hp, hs⟩ := hk hn
    have hlt : g' < w.heap.size := by
      cases ks with
      | nil => exact absurd rfl hn
      | cons e r =>
        simp only [ElsC] at hs
        cases e
        have hs1 := hs.1
        simp only [ElC] at hs1
        exact lt_of_cell hs1.1
    obtain ⟨h5, h6⟩ := hP g' hp hlt
    exact ⟨g', o', ha, h6, ElsC.kept hP ks g' o' h5 hs⟩
theorem ElsC.kept {P Q : Nat → Prop} {w w' : World} (hP : ∀ g, P g → g < w.heap.size → w'.heap[g]? = w.heap[g]? ∧ Q g) : ∀ (l : List El) (g o : Nat), w'.heap[g]? = w.heap[g]? → ElsC P w l g o → ElsC Q w' l g o
  | [], _, _, _, _ => by simp only [ElsC]
  | e :: r, g, o, hg, h => by
    simp only [ElsC] at h ⊢
    exact ⟨ElC.kept hP e g o hg h.1, ElsC.kept hP r g (o + 5) hg h.2⟩
end
theorem ElsC.lt {P : Nat → Prop} {w : World} {ks : List El} {g o : Nat} (hn : ks ≠ []) (hs : ElsC P w ks g o) : g < w.heap.size := by
  cases ks with
  | nil => exact absurd rfl hn
  | cons e r =>
    simp only [ElsC] at hs
    cases e
    have hs1 := hs.1
    simp only [ElC] at hs1
    exact lt_of_cell hs1.1
theorem KidsAt.kept {P Q : Nat → Prop} {w w' : World} {v : Value} {ks : List El} (h : KidsAt P w v ks) (hP : ∀ g, P g → g < w.heap.size → w'.heap[g]? = w.heap[g]? ∧ Q g) : KidsAt Q w' v ks := by
  obtain ⟨a, cap, hv, hc, hk⟩ := h
  refine ⟨a, cap, hv, hc, fun hn => ?_⟩
  obtain ⟨g, o, ha, hp, hs⟩ := hk hn
  obtain ⟨h1, h2⟩ := hP g hp (hs.lt hn)
  exact ⟨g, o, ha, h2, ElsC.kept hP ks g o h1 hs⟩
theorem KidsAt.below {P : Nat → Prop} {w w' : World} {v : Value} {ks : List El} (h : KidsAt P w v ks) (hb : Below w.heap.size w w') : KidsAt P w' v ks :=
  h.kept fun g hp hl => ⟨hb.block g hl, hp⟩
theorem KidsAt.mono {P Q : Nat → Prop} {w : World} {v : Value} {ks : List El} (h : KidsAt P w v ks) (hPQ : ∀ g, P g → g < w.heap.size → Q g) : KidsAt Q w v ks :=
  h.kept fun g hp hl => ⟨rfl, hPQ g hp hl⟩
theorem KidsAt.nil (P : Nat → Prop) (w : World) : KidsAt P w (.slice none 0 0) [] := ⟨none, 0, rfl, Nat.le_refl _, fun h => absurd rfl h⟩
theorem KidsAt.shape {P : Nat → Prop} {w : World} {v : Value} {ks : List El} (h : KidsAt P w v ks) : ∃ a c, v = .slice a ks.length c := by
  obtain ⟨a, c, e, _⟩ := h
  exact ⟨a, c, e⟩
theorem ElsC.get {P : Nat → Prop} {w : World} : ∀ (l : List El) (g o j : Nat) (e : El), ElsC P w l g o → l[j]? = some e → ElC P w e g (o + j * 5)
  | [], _, _, _, _, _, h => by simp at h
  | x :: r, g, o, 0, e, h, hj => by
    simp at hj; subst hj
    simp only [ElsC] at h
    simpa using h.1
  | x :: r, g, o, j + 1, e, h, hj => by
    simp only [ElsC] at h
    have := ElsC.get r g (o + 5) j e h.2 (by simpa using hj)
    rw [show o + (j + 1) * 5 = o + 5 + j * 5 by omega]
    exact this
/-- The cells of an element. -/
theorem ElC.cells {P : Nat → Prop} {w : World} {e : El} {g o : Nat} (h : ElC P w e g o) : w.cell? ⟨g, o, none⟩ = some (.int .i64 e.cls) ∧ w.cell? ⟨g, o + 1, none⟩ = some (.int .i64 e.tag) ∧ w.cell? ⟨g, o + 2, none⟩ = some (.bool e.cons) ∧ w.cell? ⟨g, o + 3, none⟩ = some (.string ⟨e.bytes.toArray⟩) ∧
    ∃ u, w.cell? ⟨g, o + 4, none⟩ = some u ∧ KidsAt P w u e.kids := by
  cases e
  simp only [ElC] at h
  obtain ⟨h0, h1, h2, h3, u, h4, a, cap, hu, hc, hk⟩ := h
  exact ⟨h0, h1, h2, h3, u, h4, a, cap, hu, hc, hk⟩
theorem ElC.mk {P : Nat → Prop} {w : World} {e : El} {g o : Nat} {u : Value} (h0 : w.cell? ⟨g, o, none⟩ = some (.int .i64 e.cls)) (h1 : w.cell? ⟨g, o + 1, none⟩ = some (.int .i64 e.tag)) (h2 : w.cell? ⟨g, o + 2, none⟩ = some (.bool e.cons)) (h3 : w.cell? ⟨g, o + 3, none⟩ = some (.string ⟨e.bytes.toArray⟩))
    (h4 : w.cell? ⟨g, o + 4, none⟩ = some u) (hk : KidsAt P w u e.kids) : ElC P w e g o := by
  cases e
  simp only [ElC]
  obtain ⟨a, cap, hu, hc, hk⟩ := hk
  exact ⟨h0, h1, h2, h3, u, h4, a, cap, hu, hc, hk⟩
end Go.Proofs.YtaojidcneocelaaGreatDoor
