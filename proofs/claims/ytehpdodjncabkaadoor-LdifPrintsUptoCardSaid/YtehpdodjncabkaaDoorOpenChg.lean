/- An argument that is a record: how it lies in memory, and how much it holds. -/
import Derived.Test.YtehpdodjncabkaaDoorLwC
import Derived.Test.YtehpdodjncabkaaDoorCardBaseC
import Derived.Deep.SlicePairs
import Derived.Deep.Strs
import Derived.Lib.SmallJoins
namespace Go.Proofs.YtehpdodjncabkaaDoor
open Go.Shelf Go.ChangeShapes Go.WideShapes Go.ChangeAt Go.RowKit Go.Lib

theorem spot_form {w : World} {a : Addr} {v : Value} {k : Nat} (h : w.cell? (a.add k) = some v) (hk : k = 0) : ∃ g o, a = ⟨g, o, none⟩ := by
  subst hk
  have e : (a.add 0) = a := by simp [Addr.add]
  rw [e] at h
  have hs := spot_of_cell h
  obtain ⟨g, o, s⟩ := a
  simp only at hs
  subst hs
  exact ⟨g, o, rfl⟩
theorem bulk_all {H : Type} : ∀ l : List (DataW H), Rows.uptoBulkAll l = (l.map Rows.uptoBulk).sum
  | [] => rfl
  | d :: r => by rw [Rows.uptoBulkAll, bulk_all r]; simp
theorem bulk_map {H : Type} (D : Nat → DataW H) (f : Nat → Nat) : ∀ (n : Nat), (∀ i, i < n → f i ≤ Rows.uptoBulk (D i)) → ((List.range n).map f).sum ≤ Rows.uptoBulkAll ((List.range n).map D) := by
  intro n
  rw [bulk_all, List.map_map]
  induction n with
  | zero => intro _; simp
  | succ n ih =>
    intro h
    rw [List.range_succ, List.map_append, List.map_append, List.sum_append, List.sum_append]
    have h1 := ih (fun i hi => h i (by omega))
    have h2 := h n (by omega)
    simp only [List.map_cons, List.map_nil, List.sum_cons, List.sum_nil, Function.comp]
    omega
theorem list3 {α : Type} : ∀ {l : List α}, l.length = 3 → ∃ a b c, l = [a, b, c]
  | [a, b, c], _ => ⟨a, b, c, rfl⟩
def buS (ls : List (List UInt8)) : Nat := (ls.map fun l => l.length + 1).sum
def buA (al : List At) : Nat := (al.map fun a => a.1.length + buS a.2 + 1).sum
def buM (ml : List Md) : Nat := (ml.map fun m => m.2.1.length + buS m.2.2 + 1).sum
set_option maxRecDepth 100000 in
theorem open_strs {H : Type} {enc : TypeId × Value → H} {W : World} {base : Nat} {spare : Nat → Bool} {held : Bool} {fuel : Nat} {cs : List Value} {x : DataW H × List MemPlace}
    (h : DataW.trod enc Tryd.prog W base spare held fuel 29 cs = some x) : ∃ v ls, cs = [v] ∧ StrsAt W v ls ∧ buS ls ≤ Rows.uptoBulk x.1 := by
  rcases Go.Deep.open_slice1 Tryd.underlying29 (by kernel_rfl) h with ⟨rfl, rfl⟩ | ⟨a, len, cap, m, n, V, D, Pl, rfl, hb, hl, hm, hmm, rfl, hx⟩
  · exact ⟨_, [], rfl, ⟨none, 0, rfl, Nat.le_refl _, fun h => absurd rfl h⟩, by simp [buS]⟩
  · have hlm : len ≤ m := by rw [hmm]; split <;> omega
    have each : ∀ i, ∃ q : List UInt8, i < len → V i = .string ⟨q.toArray⟩ ∧ D i = .lit (.string q) := by
      intro i
      by_cases hi : i < len
      · obtain ⟨s0, e0, y0, _⟩ := DataW.trod_string Tryd.underlying9 (hx i (by omega)).2
        refine ⟨s0.data.toList, fun _ => ⟨?_, congrArg Prod.fst y0⟩⟩
        have := List.cons.inj e0; rw [this.1]
      · exact ⟨[], fun h => absurd h hi⟩
    let f := fun i => Classical.choose (each i)
    have hf : ∀ i, i < len → V i = .string ⟨(f i).toArray⟩ ∧ D i = .lit (.string (f i)) := fun i => Classical.choose_spec (each i)
    have hlen : ((List.range len).map f).length = len := by simp
    refine ⟨_, (List.range len).map f, rfl, ⟨some a, cap, by rw [hlen], by rw [hlen]; exact hl, fun h0 => ?_⟩, ?_⟩
    · have hpos : 0 < len := by
        rcases Nat.eq_zero_or_pos len with h | h
        · subst h; exact absurd rfl h0
        · exact h
      obtain ⟨g, o, rfl⟩ := spot_form (hx 0 (by omega)).1 (by simp)
      refine ⟨g, o, rfl, fun j y hj => ?_⟩
      have hjl : j < len := by have := (List.getElem?_eq_some_iff.1 hj).1; simpa using this
      rw [List.getElem?_map, List.getElem?_range hjl] at hj
      cases hj
      have c0 := (hx j (by omega)).1
      rw [Addr.add_lit, (hf j hjl).1] at c0
      exact c0
    · have := bulk_map D (fun i => (f i).length + 1) len (fun i hi => by rw [(hf i hi).2]; simp [Rows.uptoBulk])
      simp only [Rows.uptoBulk, buS, List.map_map]
      simp only [Function.comp_def] at this ⊢
      omega
set_option maxRecDepth 100000 in
theorem open_attrs {H : Type} {enc : TypeId × Value → H} {W : World} {base : Nat} {spare : Nat → Bool} {held : Bool} {fuel : Nat} {cs : List Value} {x : DataW H × List MemPlace}
    (h : DataW.trod enc Tryd.prog W base spare held fuel 22 cs = some x) : ∃ v al, cs = [v] ∧ AttrsAt W v al ∧ buA al ≤ Rows.uptoBulk x.1 := by
  rcases Go.Deep.open_slice_pairs Tryd.underlying22 Tryd.underlying51 (by kernel_rfl) rfl rfl (by kernel_rfl) (by kernel_rfl) h with ⟨rfl, rfl⟩ | ⟨a, len, cap, m, n, V0, V1, D0, D1, P0, P1, rfl, hb, hl, hm, hmm, rfl, hx⟩
  · exact ⟨_, [], rfl, ⟨none, 0, rfl, Nat.le_refl _, fun h => absurd rfl h⟩, by simp [buA]⟩
  · have hlm : len ≤ m := by rw [hmm]; split <;> omega
    have each : ∀ i, ∃ q : At, i < len → V0 i = .string ⟨q.1.toArray⟩ ∧ StrsAt W (V1 i) q.2 ∧ q.1.length + buS q.2 + 1 ≤ Rows.uptoBulk (.agg [D0 i, D1 i]) := by
      intro i
      by_cases hi : i < len
      · obtain ⟨_, _, h0, h1⟩ := hx i (by omega)
        obtain ⟨s0, e0, y0, _⟩ := DataW.trod_string Tryd.underlying9 h0
        obtain ⟨v1, ls, e1, h2, h3⟩ := open_strs h1
        refine ⟨(s0.data.toList, ls), fun _ => ⟨?_, ?_, ?_⟩⟩
        · have := List.cons.inj e0; rw [this.1]
        · have := List.cons.inj e1; rw [this.1]; exact h2
        · have e := congrArg Prod.fst y0
          simp only at e
          simp only [Rows.uptoBulk, Rows.uptoBulkAll, e]
          try simp only at h3
          omega
      · exact ⟨([], []), fun h => absurd h hi⟩
    let f := fun i => Classical.choose (each i)
    have hf : ∀ i, i < len → V0 i = .string ⟨(f i).1.toArray⟩ ∧ StrsAt W (V1 i) (f i).2 ∧ (f i).1.length + buS (f i).2 + 1 ≤ Rows.uptoBulk (.agg [D0 i, D1 i]) := fun i => Classical.choose_spec (each i)
    have hlen : ((List.range len).map f).length = len := by simp
    refine ⟨_, (List.range len).map f, rfl, ⟨some a, cap, by rw [hlen], by rw [hlen]; exact hl, fun h0 => ?_⟩, ?_⟩
    · have hpos : 0 < len := by
        rcases Nat.eq_zero_or_pos len with h | h
        · subst h; exact absurd rfl h0
        · exact h
      obtain ⟨g, o, rfl⟩ := spot_form (hx 0 (by omega)).1 (by simp)
      refine ⟨g, o, rfl, fun j y hj => ?_⟩
      have hjl : j < len := by have := (List.getElem?_eq_some_iff.1 hj).1; simpa using this
      rw [List.getElem?_map, List.getElem?_range hjl] at hj
      cases hj
      obtain ⟨c0, c1, _, _⟩ := hx j (by omega)
      obtain ⟨v0, v1, _⟩ := hf j hjl
      rw [Addr.add_lit, v0] at c0
      rw [Addr.add_lit, ← Nat.add_assoc] at c1
      exact ⟨c0, V1 j, c1, v1⟩
    · have := bulk_map (fun i => .agg [D0 i, D1 i]) (fun i => (f i).1.length + buS (f i).2 + 1) len (fun i hi => (hf i hi).2.2)
      simp only [Rows.uptoBulk, buA, List.map_map]
      simp only [Function.comp_def] at this ⊢
      omega
set_option maxRecDepth 100000 in
theorem open_mods {H : Type} {enc : TypeId × Value → H} {W : World} {base : Nat} {spare : Nat → Bool} {held : Bool} {fuel : Nat} {cs : List Value} {x : DataW H × List MemPlace}
    (h : DataW.trod enc Tryd.prog W base spare held fuel 23 cs = some x) : ∃ v ml, cs = [v] ∧ ModsAt W v ml ∧ buM ml ≤ Rows.uptoBulk x.1 := by
  rcases Go.Deep.open_slice Tryd.underlying23 h with ⟨rfl, rfl⟩ | ⟨a, len, cap, m, n, D, Pl, rfl, hb, hl, hm, hmm, rfl, hx⟩
  · exact ⟨_, [], rfl, ⟨none, 0, rfl, Nat.le_refl _, fun h => absurd rfl h⟩, by simp [buM]⟩
  · have hlm : len ≤ m := by rw [hmm]; split <;> omega
    have c3 : Tryd.prog.cellsOf 53 = 3 := by kernel_rfl
    have each : ∀ i, ∃ q : Md, i < len → W.cell? (a.add (i * 3)) = some (.int .i64 q.1) ∧ W.cell? (a.add (i * 3 + 1)) = some (.string ⟨q.2.1.toArray⟩) ∧ (∃ u, W.cell? (a.add (i * 3 + 2)) = some u ∧ StrsAt W u q.2.2) ∧ q.2.1.length + buS q.2.2 + 1 ≤ Rows.uptoBulk (D i) := by
      intro i
      by_cases hi : i < len
      · obtain ⟨cs', h1, h2⟩ := hx i (by omega)
        rw [c3] at h1
        obtain ⟨_, hlen, hcell⟩ := World.cells?_some h1
        obtain ⟨y0, y1, y2, k, hy, _, g0, g1, g2⟩ := Go.Deep.trod_struct3 Tryd.underlying53 h2
        obtain ⟨v0, v1, v2, rfl⟩ := list3 hlen
        have k0 : Tryd.prog.cellsOf 3 = 1 := by kernel_rfl
        have k1 : Tryd.prog.cellsOf 9 = 1 := by kernel_rfl
        have k2 : Tryd.prog.cellsOf 29 = 1 := by kernel_rfl
        simp only [k0, k1, k2, List.drop_zero, List.take_succ_cons, List.take_zero, List.drop_succ_cons] at g0 g1 g2
        have e0 := hcell 0 (by omega)
        have e1 := hcell 1 (by omega)
        have e2 := hcell 2 (by omega)
        rw [Go.Deep.add_add] at e0 e1 e2
        obtain ⟨z, q0, r0, _⟩ := DataW.trod_int Tryd.underlying3 g0
        obtain ⟨s1, q1, r1, _⟩ := DataW.trod_string Tryd.underlying9 g1
        obtain ⟨u2, ls, q2, h3, h4⟩ := open_strs g2
        have q0 := (List.cons.inj q0).1
        have q1 := (List.cons.inj q1).1
        have q2 := (List.cons.inj q2).1
        subst q0 q1 q2
        refine ⟨(z, s1.data.toList, ls), fun _ => ⟨by simpa using e0, by simpa using e1, ⟨_, by simpa using e2, h3⟩, ?_⟩⟩
        have e : D i = .agg [y0.1, y1.1, y2.1] := congrArg Prod.fst hy
        have r1 := congrArg Prod.fst r1
        try simp only at r1
        simp only [e, Rows.uptoBulk, Rows.uptoBulkAll, r1]
        try simp only at h4
        omega
      · exact ⟨(0, [], []), fun h => absurd h hi⟩
    let f := fun i => Classical.choose (each i)
    have hf : ∀ i, i < len → W.cell? (a.add (i * 3)) = some (.int .i64 (f i).1) ∧ W.cell? (a.add (i * 3 + 1)) = some (.string ⟨(f i).2.1.toArray⟩) ∧ (∃ u, W.cell? (a.add (i * 3 + 2)) = some u ∧ StrsAt W u (f i).2.2) ∧ (f i).2.1.length + buS (f i).2.2 + 1 ≤ Rows.uptoBulk (D i) := fun i => Classical.choose_spec (each i)
    have hlen : ((List.range len).map f).length = len := by simp
    refine ⟨_, (List.range len).map f, rfl, ⟨some a, cap, by rw [hlen], by rw [hlen]; exact hl, fun h0 => ?_⟩, ?_⟩
    · have hpos : 0 < len := by
        rcases Nat.eq_zero_or_pos len with h | h
        · subst h; exact absurd rfl h0
        · exact h
      obtain ⟨g, o, rfl⟩ := spot_form (hf 0 hpos).1 (by simp)
      refine ⟨g, o, rfl, fun j y hj => ?_⟩
      have hjl : j < len := by have := (List.getElem?_eq_some_iff.1 hj).1; simpa using this
      rw [List.getElem?_map, List.getElem?_range hjl] at hj
      cases hj
      obtain ⟨c0, c1, ⟨u, c2, c3⟩, _⟩ := hf j hjl
      rw [Addr.add_lit] at c0
      rw [Addr.add_lit, ← Nat.add_assoc] at c1 c2
      exact ⟨c0, c1, u, c2, c3⟩
    · have := bulk_map D (fun i => (f i).2.1.length + buS (f i).2.2 + 1) len (fun i hi => (hf i hi).2.2.2)
      simp only [Rows.uptoBulk, buM, List.map_map]
      simp only [Function.comp_def] at this ⊢
      omega
set_option maxRecDepth 100000 in
theorem list10 {α : Type} : ∀ {l : List α}, l.length = 10 → ∃ a b c d e f g h i j, l = [a, b, c, d, e, f, g, h, i, j]
  | [a, b, c, d, e, f, g, h, i, j], _ => ⟨a, b, c, d, e, f, g, h, i, j, rfl⟩
def buC (c : Chg) : Nat := c.time.length + c.who.length + c.dn.length + buA c.attrs + buM c.mods + c.newRdn.length + c.newSup.length
set_option maxRecDepth 100000 in
/-- A record's ten cells. -/
theorem open_ten {H : Type} {enc : TypeId × Value → H} {W : World} {base : Nat} {spare : Nat → Bool} {held : Bool} {fuel : Nat} {cs : List Value} {x : DataW H × List MemPlace}
    (h : DataW.trod enc Tryd.prog W base spare held fuel 25 cs = some x) : ∃ vA vM c, cs = (chgA c vA vM).toList ∧ AttrsAt W vA c.attrs ∧ ModsAt W vM c.mods ∧ buC c ≤ Rows.uptoBulk x.1 := by
  obtain ⟨xs, n, _, rfl, hl, hlen, hf⟩ := DataW.trod_struct Tryd.underlying25 h
  have c10 : Tryd.prog.cellsOf 25 = 10 := by kernel_rfl
  rw [c10] at hl
  obtain ⟨v0, v1, v2, v3, v4, v5, v6, v7, v8, v9, rfl⟩ := list10 hl
  obtain ⟨y0, y1, y2, y3, y4, y5, y6, y7, y8, y9, rfl⟩ := list10 (show xs.length = 10 from hlen)
  have ki : Tryd.prog.cellsOf 3 = 1 := by kernel_rfl
  have ks : Tryd.prog.cellsOf 9 = 1 := by kernel_rfl
  have kb : Tryd.prog.cellsOf 4 = 1 := by kernel_rfl
  have ka : Tryd.prog.cellsOf 22 = 1 := by kernel_rfl
  have km : Tryd.prog.cellsOf 23 = 1 := by kernel_rfl
  have g0 : DataW.trod enc Tryd.prog W base spare held n 9 [v0] = some y0 := by have h := hf 0 _ rfl; simpa [ks] using h
  have g1 : DataW.trod enc Tryd.prog W base spare held n 9 [v1] = some y1 := by have h := hf 1 _ rfl; simpa [ks] using h
  have g2 : DataW.trod enc Tryd.prog W base spare held n 9 [v2] = some y2 := by have h := hf 2 _ rfl; simpa [ks] using h
  have g3 : DataW.trod enc Tryd.prog W base spare held n 3 [v3] = some y3 := by have h := hf 3 _ rfl; simpa [ki] using h
  have g4 : DataW.trod enc Tryd.prog W base spare held n 22 [v4] = some y4 := by have h := hf 4 _ rfl; simpa [ka] using h
  have g5 : DataW.trod enc Tryd.prog W base spare held n 23 [v5] = some y5 := by have h := hf 5 _ rfl; simpa [km] using h
  have g6 : DataW.trod enc Tryd.prog W base spare held n 9 [v6] = some y6 := by have h := hf 6 _ rfl; simpa [ks] using h
  have g7 : DataW.trod enc Tryd.prog W base spare held n 9 [v7] = some y7 := by have h := hf 7 _ rfl; simpa [ks] using h
  have g8 : DataW.trod enc Tryd.prog W base spare held n 4 [v8] = some y8 := by have h := hf 8 _ rfl; simpa [kb] using h
  have g9 : DataW.trod enc Tryd.prog W base spare held n 4 [v9] = some y9 := by have h := hf 9 _ rfl; simpa [kb] using h
  clear hf
  obtain ⟨s0, q0, r0, _⟩ := DataW.trod_string Tryd.underlying9 g0
  obtain ⟨s1, q1, r1, _⟩ := DataW.trod_string Tryd.underlying9 g1
  obtain ⟨s2, q2, r2, _⟩ := DataW.trod_string Tryd.underlying9 g2
  obtain ⟨z3, q3, r3, _⟩ := DataW.trod_int Tryd.underlying3 g3
  obtain ⟨v4', al, q4, hA, hA2⟩ := open_attrs g4
  obtain ⟨v5', ml, q5, hM, hM2⟩ := open_mods g5
  obtain ⟨s6, q6, r6, _⟩ := DataW.trod_string Tryd.underlying9 g6
  obtain ⟨s7, q7, r7, _⟩ := DataW.trod_string Tryd.underlying9 g7
  obtain ⟨b8, q8, r8⟩ := DataW.trod_bool Tryd.underlying4 g8
  obtain ⟨b9, q9, r9⟩ := DataW.trod_bool Tryd.underlying4 g9
  have q0 := (List.cons.inj q0).1
  have q1 := (List.cons.inj q1).1
  have q2 := (List.cons.inj q2).1
  have q3 := (List.cons.inj q3).1
  have q4 := (List.cons.inj q4).1
  have q5 := (List.cons.inj q5).1
  have q6 := (List.cons.inj q6).1
  have q7 := (List.cons.inj q7).1
  have q8 := (List.cons.inj q8).1
  have q9 := (List.cons.inj q9).1
  subst q0 q1 q2 q3 q4 q5 q6 q7 q8 q9
  refine ⟨_, _, ⟨s0.data.toList, s1.data.toList, s2.data.toList, z3, al, ml, s6.data.toList, s7.data.toList, b8, b9⟩, by simp [chgA], hA, hM, ?_⟩
  have r0 := congrArg Prod.fst r0
  have r1 := congrArg Prod.fst r1
  have r2 := congrArg Prod.fst r2
  have r6 := congrArg Prod.fst r6
  have r7 := congrArg Prod.fst r7
  try simp only at r0 r1 r2 r6 r7
  simp only [List.map_cons, List.map_nil, Rows.uptoBulk, Rows.uptoBulkAll, r0, r1, r2, r6, r7, buC]
  omega
set_option maxRecDepth 100000 in
theorem open_chg {H : Type} {enc : TypeId × Value → H} {W : World} {base b0 : Nat} {spare : Nat → Bool} {held : Bool} {r : Reach} {v : Value} {d : DataW H} {p : List MemPlace}
    (hv : Value.okWide Tryd.prog W r b0 25 v) (h : DataW.Trod enc Tryd.prog W base spare held 25 v d p) :
    ∃ vA vM c, v = .agg (chgA c vA vM) ∧ AttrsAt W vA c.attrs ∧ ModsAt W vM c.mods ∧ buC c ≤ Rows.uptoBulk d := by
  obtain ⟨cs, rfl, _⟩ := okWide_struct Tryd.underlying25 hv
  obtain ⟨fuel, hf⟩ := h
  obtain ⟨vA, vM, c, hc, h1, h2, h3⟩ := open_ten hf
  refine ⟨vA, vM, c, ?_, h1, h2, h3⟩
  have : cs.toList = (chgA c vA vM).toList := hc
  rw [Array.toList_inj.1 this]
theorem sum_mem {α : Type} (f : α → Nat) : ∀ (l : List α) (x : α), x ∈ l → f x ≤ (l.map f).sum
  | y :: l, x, h => by
    rcases List.mem_cons.1 h with rfl | h
    · simp
    · have := sum_mem f l x h; simp; omega
theorem sum_len {α : Type} (f : α → Nat) (hf : ∀ x, 1 ≤ f x) : ∀ (l : List α), l.length ≤ (l.map f).sum
  | [] => by simp
  | y :: l => by have := sum_len f hf l; have := hf y; simp; omega
theorem lineL_up (n v : List UInt8) : (lineB n v).length ≤ n.length + 2 * v.length + 8 := by
  unfold lineB
  split
  · simp; omega
  · simp only [List.length_append, b64_length v.length v (Nat.le_refl _)]
    simp
    omega
theorem valsL_up (n : List UInt8) (hn : n.length ≤ 64) : ∀ vs : List (List UInt8), (valsB n vs).length ≤ 80 * buS vs
  | [] => by simp [valsB]
  | v :: vs => by
    have h1 := valsL_up n hn vs
    have h2 := lineL_up n v
    have e : valsB n (v :: vs) = lineB n v ++ valsB n vs := by simp [valsB]
    have e2 : buS (v :: vs) = v.length + 1 + buS vs := by simp [buS]
    rw [e, List.length_append, e2]
    omega
theorem attrL_up : ∀ al : List At, (∀ x ∈ al, x.1.length ≤ 64) → (attrB al).length ≤ 80 * buA al
  | [], _ => by simp [attrB]
  | a :: al, h => by
    have h1 := attrL_up al (fun x hx => h x (by simp [hx]))
    have h2 := valsL_up a.1 (h a (by simp)) a.2
    have e : attrB (a :: al) = valsB a.1 a.2 ++ attrB al := by simp [attrB]
    have e2 : buA (a :: al) = a.1.length + buS a.2 + 1 + buA al := by simp [buA]
    rw [e, List.length_append, e2]
    omega
set_option maxRecDepth 100000 in
theorem modL_up : ∀ ml : List Md, (∀ x ∈ ml, x.2.1.length ≤ 64) → (modB ml).length ≤ 300 * buM ml
  | [], _ => by simp [modB]
  | a :: ml, h => by
    have h1 := modL_up ml (fun x hx => h x (by simp [hx]))
    have h2 := valsL_up a.2.1 (h a (by simp)) a.2.2
    have h5 := lineL_up (opW a.1) a.2.1
    have h7 : (opW a.1).length ≤ 7 := by unfold opW; split <;> (try split) <;> decide
    have h8 := h a (by simp)
    have h6 : (modB1 a).length = (lineB (opW a.1) a.2.1).length + (valsB a.2.1 a.2.2).length + 2 := by simp [modB1]; omega
    have e : modB (a :: ml) = modB1 a ++ modB ml := by simp [modB]
    have e2 : buM (a :: ml) = a.2.1.length + buS a.2.2 + 1 + buM ml := by simp [buM]
    rw [e, List.length_append, e2]
    omega
theorem isTyL {t : List UInt8} (h : isTyB t = true) : t.length ≤ 64 := by
  unfold isTyB at h
  split at h
  · cases h
  · rename_i hc
    simp only [not_or] at hc
    omega
theorem attrsTy : ∀ (al : List At) (p : Option (List UInt8)), attrsOk p al = true → ∀ x ∈ al, x.1.length ≤ 64
  | [], _, _, x, hx => by cases hx
  | a :: al, p, h, x, hx => by
    unfold attrsOk at h
    simp only [Bool.and_eq_true] at h
    rcases List.mem_cons.1 hx with rfl | hx
    · exact isTyL h.1.1.1
    · exact attrsTy al _ h.2 x hx
theorem modsTy (ml : List Md) (h : modsOk ml = true) : ∀ x ∈ ml, x.2.1.length ≤ 64 := by
  intro x hx
  have := List.all_eq_true.1 h x hx
  simp only [Bool.and_eq_true] at this
  exact isTyL this.2
theorem small_bulk (c : Chg) (h : buC c ≤ 1048576) : Small c := by
  unfold buC at h
  have hA : ∀ x ∈ c.attrs, x.1.length + buS x.2 + 1 ≤ buA c.attrs := fun x hx => sum_mem (fun a : At => a.1.length + buS a.2 + 1) _ x hx
  have hM : ∀ x ∈ c.mods, x.2.1.length + buS x.2.2 + 1 ≤ buM c.mods := fun x hx => sum_mem (fun m : Md => m.2.1.length + buS m.2.2 + 1) _ x hx
  have hS : ∀ (l : List (List UInt8)), ∀ x ∈ l, x.length + 1 ≤ buS l := fun l x hx => sum_mem (fun v : List UInt8 => v.length + 1) _ x hx
  have lS : ∀ (l : List (List UInt8)), l.length ≤ buS l := fun l => sum_len (fun v : List UInt8 => v.length + 1) (fun x => by simp) l
  have lA : c.attrs.length ≤ buA c.attrs := sum_len (fun a : At => a.1.length + buS a.2 + 1) (fun x => by simp) _
  have lM : c.mods.length ≤ buM c.mods := sum_len (fun m : Md => m.2.1.length + buS m.2.2 + 1) (fun x => by simp) _
  refine ⟨⟨by omega, by omega, by omega, by omega, by omega⟩, by omega, by omega, fun x hx => ?_, fun x hx => ?_, fun hr => ?_⟩
  · have h1 := hA x hx
    have h2 := lS x.2
    exact ⟨by omega, by omega, fun v hv => by have := hS x.2 v hv; omega⟩
  · have h1 := hM x hx
    have h2 := lS x.2.2
    exact ⟨by omega, by omega, fun v hv => by have := hS x.2.2 v hv; omega⟩
  · simp only [rightC, Bool.and_eq_true] at hr
    have h1 := attrL_up c.attrs (attrsTy _ _ hr.1.2)
    have h2 := modL_up c.mods (modsTy _ hr.2)
    have t0 := lineL_up [116, 105, 109, 101] c.time
    have t1 := lineL_up [119, 104, 111] c.who
    have t2 := lineL_up [100, 110] c.dn
    have t3 := lineL_up [99, 104, 97, 110, 103, 101, 116, 121, 112, 101] (kindW c.kind)
    have k3 : (kindW c.kind).length ≤ 6 := by unfold kindW; split <;> (try split) <;> (try split) <;> decide
    have t6 := lineL_up [110, 101, 119, 114, 100, 110] c.newRdn
    have t7 := lineL_up [110, 101, 119, 115, 117, 112, 101, 114, 105, 111, 114] c.newSup
    have t8 := lineL_up [100, 101, 108, 101, 116, 101, 111, 108, 100, 114, 100, 110] (if c.delOld then [49] else [48])
    have k8 : (if c.delOld then [49] else [48] : List UInt8).length = 1 := by split <;> rfl
    have hr2 : (restC c).length ≤ 300 * 1048576 := by
      unfold restC
      split
      · omega
      · split
        · omega
        · split
          · unfold moveB
            obtain ⟨q, hq⟩ : ∃ q, (if c.delOld then [49] else [48] : List UInt8) = q := ⟨_, rfl⟩
            rw [hq] at t8 k8 ⊢
            simp only [List.length_append]
            simp only [List.length_cons, List.length_nil] at t6 t7 t8
            split
            · omega
            · simp; omega
          · simp
    unfold textC headC
    simp only [List.length_append, List.length_cons, List.length_nil] at t0 t1 t2 t3 ⊢
    omega
end Go.Proofs.YtehpdodjncabkaaDoor
