/- An argument that is a list of records: how it lies in memory, and how much it holds. -/
import Derived.Test.YtehpdodjncabkaaDoorOpenChg
import Derived.Test.YtehpdodjncabkaaDoorLwF
namespace Go.Proofs.YtehpdodjncabkaaDoor
open Go.Shelf Go.ChangeShapes Go.WideShapes Go.ChangeAt Go.RowKit Go.Lib

def buL (l : List Chg) : Nat := (l.map buC).sum
set_option maxRecDepth 100000 in
theorem open_chgs {H : Type} {enc : TypeId × Value → H} {W : World} {base : Nat} {spare : Nat → Bool} {held : Bool} {fuel : Nat} {cs : List Value} {x : DataW H × List MemPlace}
    (h : DataW.trod enc Tryd.prog W base spare held fuel 43 cs = some x) : ∃ v l, cs = [v] ∧ ChgsAt W v l ∧ buL l ≤ Rows.uptoBulk x.1 := by
  rcases Go.Deep.open_slice Tryd.underlying43 h with ⟨rfl, rfl⟩ | ⟨a, len, cap, m, n, D, Pl, rfl, hb, hl, hm, hmm, rfl, hx⟩
  · exact ⟨_, [], rfl, ⟨none, 0, rfl, Nat.le_refl _, fun h => absurd rfl h⟩, by simp [buL]⟩
  · have hlm : len ≤ m := by rw [hmm]; split <;> omega
    have c10 : Tryd.prog.cellsOf 25 = 10 := by kernel_rfl
    have each : ∀ i, ∃ q : Chg × Value × Value, i < len → (∀ (k : Nat) (y : Value), (chgA q.1 q.2.1 q.2.2)[k]? = some y → W.cell? (a.add (i * 10 + k)) = some y) ∧ AttrsAt W q.2.1 q.1.attrs ∧ ModsAt W q.2.2 q.1.mods ∧ buC q.1 ≤ Rows.uptoBulk (D i) := by
      intro i
      by_cases hi : i < len
      · obtain ⟨cs', h1, h2⟩ := hx i (by omega)
        rw [c10] at h1
        obtain ⟨_, hlen, hcell⟩ := World.cells?_some h1
        obtain ⟨vA, vM, c, hc, q1, q2, q3⟩ := open_ten h2
        refine ⟨(c, vA, vM), fun _ => ⟨fun k y hk => ?_, q1, q2, q3⟩⟩
        have hk10 : k < 10 := (Array.getElem?_eq_some_iff.1 hk).1
        have e0 := hcell k (by omega)
        rw [Go.Deep.add_add] at e0
        have e1 : cs'[k]? = some y := by rw [hc, Array.getElem?_toList]; exact hk
        first | rw [e0, e1] | (rw [e0]; have := List.getElem?_eq_some_iff.1 e1; simp [this.2])
      · exact ⟨(⟨[], [], [], 0, [], [], [], [], false, false⟩, .slice none 0 0, .slice none 0 0), fun h => absurd h hi⟩
    let f := fun i => Classical.choose (each i)
    have hf := fun i (hi : i < len) => Classical.choose_spec (each i) hi
    have hlen : ((List.range len).map fun i => (f i).1).length = len := by simp
    refine ⟨_, (List.range len).map fun i => (f i).1, rfl, ⟨some a, cap, by rw [hlen], by rw [hlen]; exact hl, fun h0 => ?_⟩, ?_⟩
    · have hpos : 0 < len := by
        rcases Nat.eq_zero_or_pos len with h | h
        · subst h; exact absurd rfl h0
        · exact h
      obtain ⟨g, o, rfl⟩ := spot_form ((hf 0 hpos).1 0 _ rfl) (by simp)
      refine ⟨g, o, rfl, fun j y hj => ?_⟩
      have hjl : j < len := by have := (List.getElem?_eq_some_iff.1 hj).1; simpa using this
      rw [List.getElem?_map, List.getElem?_range hjl] at hj
      cases hj
      obtain ⟨g1, g2, g3, _⟩ := hf j hjl
      refine ⟨_, _, fun k y hk => ?_, g2, g3⟩
      have := g1 k y hk
      rw [Addr.add_lit, ← Nat.add_assoc] at this
      exact this
    · have := bulk_map D (fun i => buC (f i).1) len (fun i hi => (hf i hi).2.2.2)
      simp only [Rows.uptoBulk, buL, List.map_map]
      simp only [Function.comp_def] at this ⊢
      omega
theorem small_bulks (l : List Chg) (h : buL l ≤ 1048576) : ∀ c ∈ l, Small c := fun c hc => small_bulk c (by have := sum_mem buC l c hc; unfold buL at h; omega)
end Go.Proofs.YtehpdodjncabkaaDoor
