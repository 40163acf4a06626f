/- An argument that is a list of texts, and its bulk. -/
import Derived.Test.YtegigcneimjimaaGreatDoorOpenDb
namespace Go.Proofs.YtegigcneimjimaaGreatDoor
open Go.Shelf Go.ChangeShapes Go.WideShapes Go.ChangeAt Go.RowKit Go.Lib

def TxtM (w : World) (v : Value) (ls : List (List UInt8)) : Prop :=
  ∃ a cap, v = .slice a ls.length cap ∧ ls.length ≤ cap ∧ (ls ≠ [] → ∃ g o, a = some ⟨g, o, none⟩ ∧ ∀ (j : Nat) (x : List UInt8), ls[j]? = some x → w.cell? ⟨g, o + j, none⟩ = some (.string ⟨x.toArray⟩))
def buS (ls : List (List UInt8)) : Nat := (ls.map fun l => l.length + 1).sum
theorem buS_mem {ls : List (List UInt8)} {s : List UInt8} (h : s ∈ ls) : s.length ≤ buS ls := by
  induction ls with
  | nil => cases h
  | cons x ls ih =>
    unfold buS at ih ⊢
    rw [List.map_cons, List.sum_cons]
    rcases List.mem_cons.1 h with rfl | h
    · omega
    · have := ih h; omega
set_option maxRecDepth 100000 in
theorem open_strs {H : Type} {enc : TypeId × Value → H} {W : World} {base : Nat} {spare : Nat → Bool} {held : Bool} {fuel : Nat} {cs : List Value} {x : DataW H × List MemPlace}
    (h : DataW.trod enc Tryz.prog W base spare held fuel 58 cs = some x) : ∃ v ls, cs = [v] ∧ TxtM W v ls ∧ buS ls ≤ Rows.uptoBulk x.1 := by
  rcases Go.Deep.open_slice1 Tryz.underlying58 (by kernel_rfl) h with ⟨rfl, rfl⟩ | ⟨a, len, cap, m, n, V, D, Pl, rfl, hb, hl, hm, hmm, rfl, hx⟩
  · exact ⟨_, [], rfl, ⟨none, 0, rfl, Nat.le_refl _, fun h => absurd rfl h⟩, by simp [buS]⟩
  · have hlm : len ≤ m := by rw [hmm]; split <;> omega
    have each : ∀ i, ∃ q : List UInt8, i < len → V i = .string ⟨q.toArray⟩ ∧ D i = .lit (.string q) := by
      intro i
      by_cases hi : i < len
      · obtain ⟨s0, e0, y0, _⟩ := DataW.trod_string Tryz.underlying9 (hx i (by omega)).2
        refine ⟨s0.data.toList, fun _ => ⟨?_, congrArg Prod.fst y0⟩⟩
        have := List.cons.inj e0; rw [this.1]
      · exact ⟨[], fun h => absurd h hi⟩
    let f := fun i => Classical.choose (each i)
    have hf : ∀ i, i < len → V i = .string ⟨(f i).toArray⟩ ∧ D i = .lit (.string (f i)) := fun i => Classical.choose_spec (each i)
    have hlen : ((List.range len).map f).length = len := by simp
    refine ⟨_, (List.range len).map f, rfl, ⟨some a, cap, by rw [hlen], by rw [hlen]; exact hl, fun h0 => ?_⟩, ?_⟩
    · have hpos : 0 < len := by
        rcases Nat.eq_zero_or_pos len with h | h
        · subst h; exact absurd rfl h0
        · exact h
      obtain ⟨g, o, rfl⟩ := spot_form (hx 0 (by omega)).1 (by simp)
      refine ⟨g, o, rfl, fun j y hj => ?_⟩
      have hjl : j < len := by have := (List.getElem?_eq_some_iff.1 hj).1; simpa using this
      rw [List.getElem?_map, List.getElem?_range hjl] at hj
      cases hj
      have c0 := (hx j (by omega)).1
      rw [Addr.add_lit, (hf j hjl).1] at c0
      exact c0
    · have := bulk_map D (fun i => (f i).length + 1) len (fun i hi => by rw [(hf i hi).2]; simp [Rows.uptoBulk])
      simp only [Rows.uptoBulk, buS, List.map_map]
      simp only [Function.comp_def] at this ⊢
      omega
end Go.Proofs.YtegigcneimjimaaGreatDoor
