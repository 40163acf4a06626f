/- An argument that is a part, or a name: how it lies in memory, and its bulk (a variant of XOpenDn for second forms). -/
import Derived.Test.YtegigcneimjimaaGreatDoorDnN
import Derived.Test.YtegigcneimjimaaGreatDoorCardBase
import Derived.Deep.SlicePairs
namespace Go.Proofs.YtegigcneimjimaaGreatDoor
open Go.Shelf Go.ChangeShapes Go.WideShapes Go.ChangeAt Go.RowKit Go.Lib

def SizedD {H : Type} (t : TypeId) (d : DataW H) : Prop := ∀ n ∈ d.weights Tryz.prog t, n ≤ reachBytes
theorem weightsAll_mem {H : Type} {e : TypeId} {d : DataW H} {n : Nat} (hn : n ∈ d.weights Tryz.prog e) : ∀ {l : List (DataW H)}, d ∈ l → n ∈ DataW.weightsAll Tryz.prog e l
  | x :: l, h => by
    rw [DataW.weightsAll, List.mem_append]
    rcases List.mem_cons.1 h with rfl | h
    · exact .inl hn
    · exact .inr (weightsAll_mem hn h)
theorem sized_elems {H : Type} {t e : TypeId} {es sp : List (DataW H)} (hu : Tryz.prog.underlying t = some (.slice e)) (h : SizedD t (.slice es sp)) :
    (es.length + sp.length) * Tryz.prog.bytesOf e ≤ reachBytes ∧ ∀ d ∈ es, SizedD e d := by
  unfold SizedD at h
  rw [DataW.weights, hu] at h
  refine ⟨h _ (List.mem_cons_self ..), fun d hd n hn => h n (List.mem_cons_of_mem _ (List.mem_append_left _ (weightsAll_mem hn hd)))⟩
theorem sized_arg {H : Type} {ts : List TypeId} {ds : List (DataW H)} (h : (DataW.weightsEach Tryz.prog ts ds).all (· ≤ reachBytes) = true) {j : Nat} {t : TypeId} {d : DataW H} (ht : ts[j]? = some t) (hd : ds[j]? = some d) : SizedD t d := by
  intro n hn
  have := List.all_eq_true.1 h n (DataW.weights_mem_each ht hd n hn)
  simpa using this
theorem spot_form {w : World} {a : Addr} {v : Value} {k : Nat} (h : w.cell? (a.add k) = some v) (hk : k = 0) : ∃ g o, a = ⟨g, o, none⟩ := by
  subst hk
  have e : (a.add 0) = a := by simp [Addr.add]
  rw [e] at h
  have hs := spot_of_cell h
  obtain ⟨g, o, s⟩ := a
  simp only at hs
  subst hs
  exact ⟨g, o, rfl⟩
def BndR (r : List Av) : Prop := r.length * 32 ≤ reachBytes ∧ ∀ a ∈ r, a.1.length ≤ reachBytes ∧ a.2.length ≤ reachBytes
def BndD (d : List (List Av)) : Prop := d.length * 24 ≤ reachBytes ∧ ∀ r ∈ d, BndR r
theorem bulk_all {H : Type} : ∀ l : List (DataW H), Rows.uptoBulkAll l = (l.map Rows.uptoBulk).sum
  | [] => rfl
  | d :: r => by rw [Rows.uptoBulkAll, bulk_all r]; simp
theorem bulk_map {H : Type} (D : Nat → DataW H) (f : Nat → Nat) : ∀ (n : Nat), (∀ i, i < n → f i ≤ Rows.uptoBulk (D i)) → ((List.range n).map f).sum ≤ Rows.uptoBulkAll ((List.range n).map D) := by
  intro n
  rw [bulk_all, List.map_map]
  induction n with
  | zero => intro _; simp
  | succ n ih =>
    intro h
    rw [List.range_succ, List.map_append, List.map_append, List.sum_append, List.sum_append]
    have h1 := ih (fun i hi => h i (by omega))
    have h2 := h n (by omega)
    simp only [List.map_cons, List.map_nil, List.sum_cons, List.sum_nil, Function.comp]
    omega
theorem bulk_pos {H : Type} (d : DataW H) : 1 ≤ Rows.uptoBulk d := by
  cases d with
  | lit l => cases l <;> simp [Rows.uptoBulk]
  | _ => simp [Rows.uptoBulk]
theorem bulk_mem {H : Type} {d : DataW H} : ∀ {l : List (DataW H)}, d ∈ l → Rows.uptoBulk d ≤ Rows.uptoBulkAll l
  | x :: l, h => by
    rw [Rows.uptoBulkAll]
    rcases List.mem_cons.1 h with rfl | h
    · omega
    · have := bulk_mem h; omega
theorem sum_const (c : Nat) : ∀ n : Nat, ((List.range n).map (fun _ => c)).sum = c * n
  | 0 => by simp
  | n + 1 => by rw [List.range_succ, List.map_append, List.sum_append, sum_const c n]; simp [Nat.mul_add]
theorem open_avs {H : Type} {enc : TypeId × Value → H} {W : World} {base : Nat} {spare : Nat → Bool} {held : Bool} {fuel : Nat} {cs : List Value} {x : DataW H × List MemPlace}
    (h : DataW.trod enc Tryz.prog W base spare held fuel 66 cs = some x) (hw : SizedD 66 x.1) : ∃ v r, cs = [v] ∧ AvsAt W v r ∧ BndR r ∧ 3 * r.length ≤ Rows.uptoBulk x.1 := by
  rcases Go.Deep.open_slice_pairs Tryz.underlying66 Tryz.underlying146 (by kernel_rfl) rfl rfl (by kernel_rfl) (by kernel_rfl) h with ⟨rfl, rfl⟩ | ⟨a, len, cap, m, n, V0, V1, D0, D1, P0, P1, rfl, hb, hl, hm, hmm, rfl, hx⟩
  · exact ⟨_, [], rfl, ⟨none, 0, rfl, Nat.le_refl _, fun h => absurd rfl h⟩, ⟨by decide, fun a ha => by cases ha⟩, by simp⟩
  · have hlm : len ≤ m := by rw [hmm]; split <;> omega
    have each : ∀ i, ∃ q : Av, i < len → V0 i = .string ⟨q.1.toArray⟩ ∧ V1 i = .string ⟨q.2.toArray⟩ ∧ D0 i = .lit (.string q.1) ∧ D1 i = .lit (.string q.2) := by
      intro i
      by_cases hi : i < len
      · obtain ⟨_, _, h0, h1⟩ := hx i (by omega)
        obtain ⟨s0, e0, y0, _⟩ := DataW.trod_string Tryz.underlying9 h0
        obtain ⟨s1, e1, y1, _⟩ := DataW.trod_string Tryz.underlying9 h1
        refine ⟨(s0.data.toList, s1.data.toList), fun _ => ⟨?_, ?_, congrArg Prod.fst y0, congrArg Prod.fst y1⟩⟩
        · have := List.cons.inj e0; rw [this.1]
        · have := List.cons.inj e1; rw [this.1]
      · exact ⟨([], []), fun h => absurd h hi⟩
    let f := fun i => Classical.choose (each i)
    have hf : ∀ i, i < len → V0 i = .string ⟨(f i).1.toArray⟩ ∧ V1 i = .string ⟨(f i).2.toArray⟩ ∧ D0 i = .lit (.string (f i).1) ∧ D1 i = .lit (.string (f i).2) := fun i => Classical.choose_spec (each i)
    have hlen : ((List.range len).map f).length = len := by simp
    obtain ⟨hz1, hz2⟩ := sized_elems Tryz.underlying66 hw
    refine ⟨_, (List.range len).map f, rfl, ⟨some a, cap, by rw [hlen], by rw [hlen]; exact hl, fun h0 => ?_⟩, ⟨?_, ?_⟩, ?_⟩
    · have hpos : 0 < len := by
        rcases Nat.eq_zero_or_pos len with h | h
        · subst h; exact absurd rfl h0
        · exact h
      obtain ⟨g, o, rfl⟩ := spot_form (hx 0 (by omega)).1 (by simp)
      refine ⟨g, o, rfl, fun j y hj => ?_⟩
      have hjl : j < len := by have := (List.getElem?_eq_some_iff.1 hj).1; simpa using this
      rw [List.getElem?_map, List.getElem?_range hjl] at hj
      cases hj
      obtain ⟨c0, c1, _, _⟩ := hx j (by omega)
      obtain ⟨v0, v1, _, _⟩ := hf j hjl
      rw [Addr.add_lit, v0, Nat.mul_comm] at c0
      rw [Addr.add_lit, v1, Nat.mul_comm, ← Nat.add_assoc] at c1
      exact ⟨c0, c1⟩
    · rw [hlen]
      have hby : Tryz.prog.bytesOf 146 = 32 := by kernel_rfl
      rw [hby] at hz1
      simp only [List.length_map, List.length_range] at hz1
      omega
    · intro y hy
      obtain ⟨i, hi, rfl⟩ := List.mem_map.1 hy
      have hi := List.mem_range.1 hi
      have hd := hz2 (.agg [D0 i, D1 i]) (List.mem_map.2 ⟨i, List.mem_range.2 hi, rfl⟩)
      obtain ⟨_, _, d0, d1⟩ := hf i hi
      unfold SizedD at hd
      rw [DataW.weights, Tryz.underlying146, d0, d1] at hd
      simp only [List.map_cons, List.map_nil, DataW.weightsEach, DataW.weights, List.append_nil, List.mem_append, List.mem_cons, List.not_mem_nil, or_false] at hd
      exact ⟨hd _ (.inl rfl), hd _ (.inr rfl)⟩
    · rw [hlen]
      have := bulk_map (fun i => .agg [D0 i, D1 i]) (fun _ => 3) len (fun i _ => by have := bulk_pos (D0 i); have := bulk_pos (D1 i); simp only [Rows.uptoBulk, Rows.uptoBulkAll]; omega)
      rw [sum_const] at this
      simp only [Rows.uptoBulk]
      omega
theorem open_dn {H : Type} {enc : TypeId × Value → H} {W : World} {base : Nat} {spare : Nat → Bool} {held : Bool} {fuel : Nat} {cs : List Value} {x : DataW H × List MemPlace}
    (h : DataW.trod enc Tryz.prog W base spare held fuel 60 cs = some x) (hw : SizedD 60 x.1) : ∃ v d, cs = [v] ∧ DnAt W v d ∧ BndD d ∧ d.length ≤ Rows.uptoBulk x.1 ∧ ∀ r ∈ d, 3 * r.length ≤ Rows.uptoBulk x.1 := by
  rcases Go.Deep.open_slice1 Tryz.underlying60 (by kernel_rfl) h with ⟨rfl, rfl⟩ | ⟨a, len, cap, m, n, V, D, Pl, rfl, hb, hl, hm, hmm, rfl, hx⟩
  · exact ⟨_, [], rfl, ⟨none, 0, rfl, Nat.le_refl _, fun h => absurd rfl h⟩, ⟨by decide, fun a ha => by cases ha⟩, by simp, fun r hr => by cases hr⟩
  · have hlm : len ≤ m := by rw [hmm]; split <;> omega
    obtain ⟨hz1, hz2⟩ := sized_elems Tryz.underlying60 hw
    have each : ∀ i, ∃ q : List Av, i < len → AvsAt W (V i) q ∧ BndR q ∧ 3 * q.length ≤ Rows.uptoBulk (D i) := by
      intro i
      by_cases hi : i < len
      · obtain ⟨v, r, e, h1, h2, h3⟩ := open_avs (hx i (by omega)).2 (hz2 (D i) (List.mem_map.2 ⟨i, List.mem_range.2 hi, rfl⟩))
        have e := (List.cons.inj e).1
        subst e
        exact ⟨r, fun _ => ⟨h1, h2, h3⟩⟩
      · exact ⟨[], fun h => absurd h hi⟩
    let f := fun i => Classical.choose (each i)
    have hf : ∀ i, i < len → AvsAt W (V i) (f i) ∧ BndR (f i) ∧ 3 * (f i).length ≤ Rows.uptoBulk (D i) := fun i => Classical.choose_spec (each i)
    have hlen : ((List.range len).map f).length = len := by simp
    refine ⟨_, (List.range len).map f, rfl, ⟨some a, cap, by rw [hlen], by rw [hlen]; exact hl, fun h0 => ?_⟩, ⟨?_, ?_⟩, ?_, ?_⟩
    · have hpos : 0 < len := by
        rcases Nat.eq_zero_or_pos len with h | h
        · subst h; exact absurd rfl h0
        · exact h
      obtain ⟨g, o, rfl⟩ := spot_form (hx 0 (by omega)).1 (by simp)
      refine ⟨g, o, rfl, fun j y hj => ?_⟩
      have hjl : j < len := by have := (List.getElem?_eq_some_iff.1 hj).1; simpa using this
      rw [List.getElem?_map, List.getElem?_range hjl] at hj
      cases hj
      have c0 := (hx j (by omega)).1
      rw [Addr.add_lit] at c0
      exact ⟨V j, c0, (hf j hjl).1⟩
    · rw [hlen]
      have hby : Tryz.prog.bytesOf 66 = 24 := by kernel_rfl
      rw [hby] at hz1
      simp only [List.length_map, List.length_range] at hz1
      omega
    · intro y hy
      obtain ⟨i, hi, rfl⟩ := List.mem_map.1 hy
      exact (hf i (List.mem_range.1 hi)).2.1
    · rw [hlen]
      have := bulk_map D (fun _ => 1) len (fun i _ => bulk_pos (D i))
      rw [sum_const] at this
      simp only [Rows.uptoBulk]
      omega
    · intro y hy
      obtain ⟨i, hi, rfl⟩ := List.mem_map.1 hy
      have h1 := (hf i (List.mem_range.1 hi)).2.2
      have h2 := bulk_mem (List.mem_map.2 ⟨i, hi, rfl⟩ : D i ∈ (List.range len).map D)
      simp only [Rows.uptoBulk]
      omega
end Go.Proofs.YtegigcneimjimaaGreatDoor
