/- OpenMsg. -/
import Derived.Deep.SlicePairs
import Derived.Deep.Strs
import Derived.Lib.SmallJoins
import Derived.Test.YthjaiigijbjloaaGreatDoorT13
namespace Go.Proofs.YthjaiigijbjloaaGreatDoor
open Go.Shelf Go.ChangeShapes Go.WideShapes Go.ChangeAt Go.RowKit Go.Lib
set_option maxRecDepth 100000
set_option maxHeartbeats 16000000
theorem gi {w : World} {a : Addr} {v : Value} {k : Nat} (h : w.cell? (a.add k) = some v) (hk : k = 0) : ∃ g o, a = ⟨g, o, none⟩ := by
 subst hk;have e : (a.add 0) = a := by simp [Addr.add]
 rw [e] at h;have hs := mb h;obtain ⟨g, o, s⟩ := a;simp only at hs;subst hs;exact ⟨g, o, rfl⟩
theorem mL {H : Type} : ∀ l : List (DataW H), Rows.uptoBulkAll l = (l.map Rows.uptoBulk).sum
 | [] => rfl
 | d :: r => by rw [Rows.uptoBulkAll, mL r]; simp
theorem gM {H : Type} (D : Nat → DataW H) (f : Nat → Nat) : ∀ (n : Nat), (∀ i, i < n → f i ≤ Rows.uptoBulk (D i)) → ((List.range n).map f).sum ≤ Rows.uptoBulkAll ((List.range n).map D) := by
 intro n;rw [mL, List.map_map]
 induction n with
 | zero => intro _; simp
 | succ n ih =>
  intro h;rw [List.range_succ, List.map_append, List.map_append, List.sum_append, List.sum_append];have h1 := ih (fun i hi => h i (by omega));have h2 := h n (by omega);simp only [List.map_cons, List.map_nil, List.sum_cons, List.sum_nil, Function.comp]
  omega
def buS (ls : List (List UInt8)) : Nat := (ls.map fun l => l.length + 1).sum
def buA (al : List (List UInt8 × List (List UInt8))) : Nat := (al.map fun a => a.1.length + buS a.2 + 1).sum
def buM (ml : List Md) : Nat := (ml.map fun m => m.2.1.length + buS m.2.2 + 1).sum
def buF (fl : List Fl) : Nat := (fl.map fun p => p.typ.length + p.value.length + p.init.length + p.final.length + buS p.any + 1).sum
def buK (cl : List Ct) : Nat := (cl.map fun c => c.oid.length + c.value.length + 1).sum
theorem ib {H : Type} {enc : TypeId × Value → H} {W : World} {base : Nat} {spare : Nat → Bool} {held : Bool} {fuel : Nat} {cs : List Value} {x : DataW H × List MemPlace}
  (h : DataW.trod enc Tryz.prog W base spare held fuel 23 cs = some x) : ∃ v ls, cs = [v] ∧ ct W v ls ∧ buS ls ≤ Rows.uptoBulk x.1 := by
 rcases Go.Deep.open_slice1 Tryz.underlying23 (by kernel_rfl) h with ⟨rfl, rfl⟩ | ⟨a, len, cap, m, n, V, D, Pl, rfl, hb, hl, hm, hmm, rfl, hx⟩
 ·exact ⟨_, [], rfl, ⟨none, 0, rfl, ah _, fun h => absurd rfl h⟩, by simp [buS]⟩
 ·have hlm : len ≤ m := by rw [hmm]; split <;> omega
  have each : ∀ i, ∃ q : List UInt8, i < len → V i = .string ⟨q.toArray⟩ ∧ D i = .lit (.string q) := by
   intro i
   by_cases hi : i < len
   ·obtain ⟨s0, e0, y0, _⟩ := DataW.trod_string Tryz.underlying9 (hx i (by omega)).2
    refine ⟨s0.data.toList, fun _ => ⟨?_, congrArg Prod.fst y0⟩⟩;have := aN e0; rw [this.1]
   ·exact ⟨[], fun h => absurd h hi⟩
  let f := fun i => Classical.choose (each i)
  have hf : ∀ i, i < len → V i = .string ⟨(f i).toArray⟩ ∧ D i = .lit (.string (f i)) := fun i => Classical.choose_spec (each i)
  have hlen : ((List.range len).map f).length = len := by simp
  refine ⟨_, (List.range len).map f, rfl, ⟨some a, cap, by rw [hlen], by rw [hlen]; exact hl, fun h0 => ?_⟩, ?_⟩
  ·have hpos : 0 < len := by
    rcases Nat.eq_zero_or_pos len with h | h
    ·subst h; exact absurd rfl h0
    ·exact h
   obtain ⟨g, o, rfl⟩ := gi (hx 0 (by omega)).1 (by simp);refine ⟨g, o, rfl, fun j y hj => ?_⟩;have hjl : j < len := by have := (List.getElem?_eq_some_iff.1 hj).1; simpa using this
   rw [List.getElem?_map, List.getElem?_range hjl] at hj;cases hj;have c0 := (hx j (by omega)).1;rw [Addr.add_lit, (hf j hjl).1] at c0;exact c0
  ·have := gM D (fun i => (f i).length + 1) len (fun i hi => by rw [(hf i hi).2]; simp [Rows.uptoBulk])
   simp only [Rows.uptoBulk, buS, List.map_map];simp only [Function.comp_def] at this ⊢
   omega
theorem pt {H : Type} {enc : TypeId × Value → H} {W : World} {base : Nat} {spare : Nat → Bool} {held : Bool} {fuel : Nat} {cs : List Value} {x : DataW H × List MemPlace}
  (h : DataW.trod enc Tryz.prog W base spare held fuel 25 cs = some x) : ∃ v al, cs = [v] ∧ eG W v al ∧ buA al ≤ Rows.uptoBulk x.1 := by
 rcases Go.Deep.open_slice_pairs Tryz.underlying25 Tryz.underlying56 (by kernel_rfl) rfl rfl (by kernel_rfl) (by kernel_rfl) h with ⟨rfl, rfl⟩ | ⟨a, len, cap, m, n, V0, V1, D0, D1, P0, P1, rfl, hb, hl, hm, hmm, rfl, hx⟩
 ·exact ⟨_, [], rfl, ⟨none, 0, rfl, ah _, fun h => absurd rfl h⟩, by simp [buA]⟩
 ·have hlm : len ≤ m := by rw [hmm]; split <;> omega
  have each : ∀ i, ∃ q : List UInt8 × List (List UInt8), i < len → V0 i = .string ⟨q.1.toArray⟩ ∧ ct W (V1 i) q.2 ∧ q.1.length + buS q.2 + 1 ≤ Rows.uptoBulk (.agg [D0 i, D1 i]) := by
   intro i
   by_cases hi : i < len
   ·obtain ⟨_, _, h0, h1⟩ := hx i (by omega)
    obtain ⟨s0, e0, y0, _⟩ := DataW.trod_string Tryz.underlying9 h0;obtain ⟨v1, ls, e1, h2, h3⟩ := ib h1;refine ⟨(s0.data.toList, ls), fun _ => ⟨?_, ?_, ?_⟩⟩
    ·have := aN e0; rw [this.1]
    ·have := aN e1; rw [this.1]; exact h2
    ·have e := congrArg Prod.fst y0
     simp only at e;simp only [Rows.uptoBulk, Rows.uptoBulkAll, e]
     try simp only at h3
     omega
   ·exact ⟨([], []), fun h => absurd h hi⟩
  let f := fun i => Classical.choose (each i)
  have hf : ∀ i, i < len → V0 i = .string ⟨(f i).1.toArray⟩ ∧ ct W (V1 i) (f i).2 ∧ (f i).1.length + buS (f i).2 + 1 ≤ Rows.uptoBulk (.agg [D0 i, D1 i]) := fun i => Classical.choose_spec (each i)
  have hlen : ((List.range len).map f).length = len := by simp
  refine ⟨_, (List.range len).map f, rfl, ⟨some a, cap, by rw [hlen], by rw [hlen]; exact hl, fun h0 => ?_⟩, ?_⟩
  ·have hpos : 0 < len := by
    rcases Nat.eq_zero_or_pos len with h | h
    ·subst h; exact absurd rfl h0
    ·exact h
   obtain ⟨g, o, rfl⟩ := gi (hx 0 (by omega)).1 (by simp);refine ⟨g, o, rfl, fun j y hj => ?_⟩;have hjl : j < len := by have := (List.getElem?_eq_some_iff.1 hj).1; simpa using this
   rw [List.getElem?_map, List.getElem?_range hjl] at hj;cases hj;obtain ⟨c0, c1, _, _⟩ := hx j (by omega);obtain ⟨v0, v1, _⟩ := hf j hjl;rw [Addr.add_lit, v0] at c0;rw [Addr.add_lit, ← Nat.add_assoc] at c1;exact ⟨c0, V1 j, c1, v1⟩
  ·have := gM (fun i => .agg [D0 i, D1 i]) (fun i => (f i).1.length + buS (f i).2 + 1) len (fun i hi => (hf i hi).2.2)
   simp only [Rows.uptoBulk, buA, List.map_map];simp only [Function.comp_def] at this ⊢
   omega
theorem sC {n : Int} (h : (Lit.int .i64 n).wf = true) : n ≤ 9223372036854775807 := by
 have := (Bool.and_eq_true_iff.1 h).2;exact of_decide_eq_true this
theorem sD {α : Type} : ∀ {l : List α}, l.length = 3 → ∃ x0 x1 x2, l = [x0, x1, x2]
 | [x0, x1, x2], _ => ⟨x0, x1, x2, rfl⟩
theorem sE {α : Type} : ∀ {l : List α}, l.length = 4 → ∃ x0 x1 x2 x3, l = [x0, x1, x2, x3]
 | [x0, x1, x2, x3], _ => ⟨x0, x1, x2, x3, rfl⟩
theorem sF {α : Type} : ∀ {l : List α}, l.length = 7 → ∃ x0 x1 x2 x3 x4 x5 x6, l = [x0, x1, x2, x3, x4, x5, x6]
 | [x0, x1, x2, x3, x4, x5, x6], _ => ⟨x0, x1, x2, x3, x4, x5, x6, rfl⟩
theorem qR {α : Type} : ∀ {l : List α}, l.length = 28 → ∃ x0 x1 x2 x3 x4 x5 x6 x7 x8 x9 x10 x11 x12 x13 x14 x15 x16 x17 x18 x19 x20 x21 x22 x23 x24 x25 x26 x27, l = [x0, x1, x2, x3, x4, x5, x6, x7, x8, x9, x10, x11, x12, x13, x14, x15, x16, x17, x18, x19, x20, x21, x22, x23, x24, x25, x26, x27]
 | [x0, x1, x2, x3, x4, x5, x6, x7, x8, x9, x10, x11, x12, x13, x14, x15, x16, x17, x18, x19, x20, x21, x22, x23, x24, x25, x26, x27], _ => ⟨x0, x1, x2, x3, x4, x5, x6, x7, x8, x9, x10, x11, x12, x13, x14, x15, x16, x17, x18, x19, x20, x21, x22, x23, x24, x25, x26, x27, rfl⟩
theorem qS {H : Type} {enc : TypeId × Value → H} {W : World} {base : Nat} {spare : Nat → Bool} {held : Bool} {fuel : Nat} {cs : List Value} {x : DataW H × List MemPlace}
  (h : DataW.trod enc Tryz.prog W base spare held fuel 24 cs = some x) : ∃ v ml, cs = [v] ∧ eY W v ml ∧ buM ml ≤ Rows.uptoBulk x.1 := by
 rcases Go.Deep.open_slice Tryz.underlying24 h with ⟨rfl, rfl⟩ | ⟨a, len, cap, m, n, D, Pl, rfl, hb, hl, hm, hmm, rfl, hx⟩
 ·exact ⟨_, [], rfl, ⟨none, 0, rfl, ah _, fun h => absurd rfl h⟩, by simp [buM]⟩
 ·have hlm : len ≤ m := by rw [hmm]; split <;> omega
  have cK : Tryz.prog.cellsOf 58 = 3 := by kernel_rfl
  have each : ∀ i, ∃ q : Md, i < len → W.cell? (a.add (i * 3)) = some (.int .i64 q.1) ∧ W.cell? (a.add (i * 3 + 1)) = some (.string ⟨q.2.1.toArray⟩) ∧ (∃ u, W.cell? (a.add (i * 3 + 2)) = some u ∧ ct W u q.2.2) ∧ q.2.1.length + buS q.2.2 + 1 ≤ Rows.uptoBulk (D i) := by
   intro i
   by_cases hi : i < len
   ·obtain ⟨cs', h1, h2⟩ := hx i (by omega)
    rw [cK] at h1;obtain ⟨_, hlen, hcell⟩ := World.cells?_some h1;obtain ⟨xs, k, _, hy, hl2, hlen2, hf2⟩ := DataW.trod_struct Tryz.underlying58 h2;obtain ⟨v0, v1, v2, rfl⟩ := sD hlen;obtain ⟨y0, y1, y2, rfl⟩ := sD (show xs.length = 3 from hlen2);have ki : Tryz.prog.cellsOf 3 = 1 := by kernel_rfl
    have ks : Tryz.prog.cellsOf 9 = 1 := by kernel_rfl
    have kb : Tryz.prog.cellsOf 4 = 1 := by kernel_rfl
    have kS : Tryz.prog.cellsOf 23 = 1 := by kernel_rfl
    have g0 : DataW.trod enc Tryz.prog W base spare held k 3 [v0] = some y0 := by have h := hf2 0 _ rfl; simpa [ki] using h
    have g1 : DataW.trod enc Tryz.prog W base spare held k 9 [v1] = some y1 := by have h := hf2 1 _ rfl; simpa [ks] using h
    have g2 : DataW.trod enc Tryz.prog W base spare held k 23 [v2] = some y2 := by have h := hf2 2 _ rfl; simpa [kS] using h
    have e0 := hcell 0 (by omega);have e1 := hcell 1 (by omega);have e2 := hcell 2 (by omega);rw [Go.Deep.add_add] at e0 e1 e2;obtain ⟨z0, q0, r0, w0⟩ := DataW.trod_int Tryz.underlying3 g0;obtain ⟨z1, q1, r1, _⟩ := DataW.trod_string Tryz.underlying9 g1;obtain ⟨u2, z2, q2, h2S, r2⟩ := ib g2;have q0 := (aN q0).1;have q1 := (aN q1).1;have q2 := (aN q2).1;subst q0 q1 q2;refine ⟨(z0, z1.data.toList, z2), fun _ => ⟨by simpa using e0, by simpa using e1, ⟨_, by simpa using e2, h2S⟩, ?_⟩⟩;have e : D i = .agg [y0.1, y1.1, y2.1] := congrArg Prod.fst hy;have r1 := congrArg Prod.fst r1
    try simp only at r1
    simp only [e, Rows.uptoBulk, Rows.uptoBulkAll, r1]
    try simp only at r2
    omega
   ·exact ⟨(0, [], []), fun h => absurd h hi⟩
  let f := fun i => Classical.choose (each i)
  have hf : ∀ i, i < len → W.cell? (a.add (i * 3)) = some (.int .i64 (f i).1) ∧ W.cell? (a.add (i * 3 + 1)) = some (.string ⟨(f i).2.1.toArray⟩) ∧ (∃ u, W.cell? (a.add (i * 3 + 2)) = some u ∧ ct W u (f i).2.2) ∧ (f i).2.1.length + buS (f i).2.2 + 1 ≤ Rows.uptoBulk (D i) := fun i => Classical.choose_spec (each i)
  have hlen : ((List.range len).map f).length = len := by simp
  refine ⟨_, (List.range len).map f, rfl, ⟨some a, cap, by rw [hlen], by rw [hlen]; exact hl, fun h0 => ?_⟩, ?_⟩
  ·have hpos : 0 < len := by
    rcases Nat.eq_zero_or_pos len with h | h
    ·subst h; exact absurd rfl h0
    ·exact h
   obtain ⟨g, o, rfl⟩ := gi (hf 0 hpos).1 (by simp);refine ⟨g, o, rfl, fun j y hj => ?_⟩;have hjl : j < len := by have := (List.getElem?_eq_some_iff.1 hj).1; simpa using this
   rw [List.getElem?_map, List.getElem?_range hjl] at hj;cases hj;obtain ⟨c0, c1, ⟨u, c2, d2⟩, _⟩ := hf j hjl;rw [Addr.add_lit] at c0;rw [Addr.add_lit, ← Nat.add_assoc] at c1 c2;exact ⟨c0, c1, u, c2, d2⟩
  ·have := gM D (fun i => (f i).2.1.length + buS (f i).2.2 + 1) len (fun i hi => (hf i hi).2.2.2)
   simp only [Rows.uptoBulk, buM, List.map_map];simp only [Function.comp_def] at this ⊢
   omega
theorem qT {H : Type} {enc : TypeId × Value → H} {W : World} {base : Nat} {spare : Nat → Bool} {held : Bool} {fuel : Nat} {cs : List Value} {x : DataW H × List MemPlace}
  (h : DataW.trod enc Tryz.prog W base spare held fuel 26 cs = some x) : ∃ v ml, cs = [v] ∧ ig W v ml ∧ buK ml ≤ Rows.uptoBulk x.1 := by
 rcases Go.Deep.open_slice Tryz.underlying26 h with ⟨rfl, rfl⟩ | ⟨a, len, cap, m, n, D, Pl, rfl, hb, hl, hm, hmm, rfl, hx⟩
 ·exact ⟨_, [], rfl, ⟨none, 0, rfl, ah _, fun h => absurd rfl h⟩, by simp [buK]⟩
 ·have hlm : len ≤ m := by rw [hmm]; split <;> omega
  have cK : Tryz.prog.cellsOf 62 = 4 := by kernel_rfl
  have each : ∀ i, ∃ q : Ct, i < len → W.cell? (a.add (i * 4)) = some (.string ⟨q.oid.toArray⟩) ∧ W.cell? (a.add (i * 4 + 1)) = some (.bool q.crit) ∧ W.cell? (a.add (i * 4 + 2)) = some (.bool q.has) ∧ W.cell? (a.add (i * 4 + 3)) = some (.string ⟨q.value.toArray⟩) ∧ q.oid.length + q.value.length + 1 ≤ Rows.uptoBulk (D i) := by
   intro i
   by_cases hi : i < len
   ·obtain ⟨cs', h1, h2⟩ := hx i (by omega)
    rw [cK] at h1;obtain ⟨_, hlen, hcell⟩ := World.cells?_some h1;obtain ⟨xs, k, _, hy, hl2, hlen2, hf2⟩ := DataW.trod_struct Tryz.underlying62 h2;obtain ⟨v0, v1, v2, v3, rfl⟩ := sE hlen;obtain ⟨y0, y1, y2, y3, rfl⟩ := sE (show xs.length = 4 from hlen2);have ki : Tryz.prog.cellsOf 3 = 1 := by kernel_rfl
    have ks : Tryz.prog.cellsOf 9 = 1 := by kernel_rfl
    have kb : Tryz.prog.cellsOf 4 = 1 := by kernel_rfl
    have kS : Tryz.prog.cellsOf 23 = 1 := by kernel_rfl
    have g0 : DataW.trod enc Tryz.prog W base spare held k 9 [v0] = some y0 := by have h := hf2 0 _ rfl; simpa [ks] using h
    have g1 : DataW.trod enc Tryz.prog W base spare held k 4 [v1] = some y1 := by have h := hf2 1 _ rfl; simpa [kb] using h
    have g2 : DataW.trod enc Tryz.prog W base spare held k 4 [v2] = some y2 := by have h := hf2 2 _ rfl; simpa [kb] using h
    have g3 : DataW.trod enc Tryz.prog W base spare held k 9 [v3] = some y3 := by have h := hf2 3 _ rfl; simpa [ks] using h
    have e0 := hcell 0 (by omega);have e1 := hcell 1 (by omega);have e2 := hcell 2 (by omega);have e3 := hcell 3 (by omega);rw [Go.Deep.add_add] at e0 e1 e2 e3;obtain ⟨z0, q0, r0, _⟩ := DataW.trod_string Tryz.underlying9 g0;obtain ⟨z1, q1, r1⟩ := DataW.trod_bool Tryz.underlying4 g1;obtain ⟨z2, q2, r2⟩ := DataW.trod_bool Tryz.underlying4 g2;obtain ⟨z3, q3, r3, _⟩ := DataW.trod_string Tryz.underlying9 g3;have q0 := (aN q0).1;have q1 := (aN q1).1;have q2 := (aN q2).1;have q3 := (aN q3).1;subst q0 q1 q2 q3;refine ⟨⟨z0.data.toList, z1, z2, z3.data.toList⟩, fun _ => ⟨by simpa using e0, by simpa using e1, by simpa using e2, by simpa using e3, ?_⟩⟩;have e : D i = .agg [y0.1, y1.1, y2.1, y3.1] := congrArg Prod.fst hy;have r0 := congrArg Prod.fst r0;have r3 := congrArg Prod.fst r3
    try simp only at r0 r3
    simp only [e, Rows.uptoBulk, Rows.uptoBulkAll, r0, r3]
    omega
   ·exact ⟨⟨[], false, false, []⟩, fun h => absurd h hi⟩
  let f := fun i => Classical.choose (each i)
  have hf : ∀ i, i < len → W.cell? (a.add (i * 4)) = some (.string ⟨(f i).oid.toArray⟩) ∧ W.cell? (a.add (i * 4 + 1)) = some (.bool (f i).crit) ∧ W.cell? (a.add (i * 4 + 2)) = some (.bool (f i).has) ∧ W.cell? (a.add (i * 4 + 3)) = some (.string ⟨(f i).value.toArray⟩) ∧ (f i).oid.length + (f i).value.length + 1 ≤ Rows.uptoBulk (D i) := fun i => Classical.choose_spec (each i)
  have hlen : ((List.range len).map f).length = len := by simp
  refine ⟨_, (List.range len).map f, rfl, ⟨some a, cap, by rw [hlen], by rw [hlen]; exact hl, fun h0 => ?_⟩, ?_⟩
  ·have hpos : 0 < len := by
    rcases Nat.eq_zero_or_pos len with h | h
    ·subst h; exact absurd rfl h0
    ·exact h
   obtain ⟨g, o, rfl⟩ := gi (hf 0 hpos).1 (by simp);refine ⟨g, o, rfl, fun j y hj => ?_⟩;have hjl : j < len := by have := (List.getElem?_eq_some_iff.1 hj).1; simpa using this
   rw [List.getElem?_map, List.getElem?_range hjl] at hj;cases hj;obtain ⟨c0, c1, c2, c3, _⟩ := hf j hjl;rw [Addr.add_lit] at c0;rw [Addr.add_lit, ← Nat.add_assoc] at c1 c2 c3;exact ⟨c0, c1, c2, c3⟩
  ·have := gM D (fun i => (f i).oid.length + (f i).value.length + 1) len (fun i hi => (hf i hi).2.2.2.2)
   simp only [Rows.uptoBulk, buK, List.map_map];simp only [Function.comp_def] at this ⊢
   omega
theorem qU {H : Type} {enc : TypeId × Value → H} {W : World} {base : Nat} {spare : Nat → Bool} {held : Bool} {fuel : Nat} {cs : List Value} {x : DataW H × List MemPlace}
  (h : DataW.trod enc Tryz.prog W base spare held fuel 22 cs = some x) : ∃ v ml, cs = [v] ∧ de W v ml ∧ buF ml ≤ Rows.uptoBulk x.1 ∧ ∀ p ∈ ml, p.n ≤ 9223372036854775807 := by
 rcases Go.Deep.open_slice Tryz.underlying22 h with ⟨rfl, rfl⟩ | ⟨a, len, cap, m, n, D, Pl, rfl, hb, hl, hm, hmm, rfl, hx⟩
 ·exact ⟨_, [], rfl, ⟨none, 0, rfl, ah _, fun h => absurd rfl h⟩, by simp [buF], by simp⟩
 ·have hlm : len ≤ m := by rw [hmm]; split <;> omega
  have cK : Tryz.prog.cellsOf 60 = 7 := by kernel_rfl
  have each : ∀ i, ∃ q : Fl, i < len → W.cell? (a.add (i * 7)) = some (.int .i64 q.op) ∧ W.cell? (a.add (i * 7 + 1)) = some (.int .i64 q.n) ∧ W.cell? (a.add (i * 7 + 2)) = some (.string ⟨q.typ.toArray⟩) ∧ W.cell? (a.add (i * 7 + 3)) = some (.string ⟨q.value.toArray⟩) ∧ W.cell? (a.add (i * 7 + 4)) = some (.string ⟨q.init.toArray⟩) ∧ W.cell? (a.add (i * 7 + 5)) = some (.string ⟨q.final.toArray⟩) ∧ (∃ u, W.cell? (a.add (i * 7 + 6)) = some u ∧ ct W u q.any) ∧ q.op ≤ 9223372036854775807 ∧ q.n ≤ 9223372036854775807 ∧ q.typ.length + q.value.length + q.init.length + q.final.length + buS q.any + 1 ≤ Rows.uptoBulk (D i) := by
   intro i
   by_cases hi : i < len
   ·obtain ⟨cs', h1, h2⟩ := hx i (by omega)
    rw [cK] at h1;obtain ⟨_, hlen, hcell⟩ := World.cells?_some h1;obtain ⟨xs, k, _, hy, hl2, hlen2, hf2⟩ := DataW.trod_struct Tryz.underlying60 h2;obtain ⟨v0, v1, v2, v3, v4, v5, v6, rfl⟩ := sF hlen;obtain ⟨y0, y1, y2, y3, y4, y5, y6, rfl⟩ := sF (show xs.length = 7 from hlen2);have ki : Tryz.prog.cellsOf 3 = 1 := by kernel_rfl
    have ks : Tryz.prog.cellsOf 9 = 1 := by kernel_rfl
    have kb : Tryz.prog.cellsOf 4 = 1 := by kernel_rfl
    have kS : Tryz.prog.cellsOf 23 = 1 := by kernel_rfl
    have g0 : DataW.trod enc Tryz.prog W base spare held k 3 [v0] = some y0 := by have h := hf2 0 _ rfl; simpa [ki] using h
    have g1 : DataW.trod enc Tryz.prog W base spare held k 3 [v1] = some y1 := by have h := hf2 1 _ rfl; simpa [ki] using h
    have g2 : DataW.trod enc Tryz.prog W base spare held k 9 [v2] = some y2 := by have h := hf2 2 _ rfl; simpa [ks] using h
    have g3 : DataW.trod enc Tryz.prog W base spare held k 9 [v3] = some y3 := by have h := hf2 3 _ rfl; simpa [ks] using h
    have g4 : DataW.trod enc Tryz.prog W base spare held k 9 [v4] = some y4 := by have h := hf2 4 _ rfl; simpa [ks] using h
    have g5 : DataW.trod enc Tryz.prog W base spare held k 9 [v5] = some y5 := by have h := hf2 5 _ rfl; simpa [ks] using h
    have g6 : DataW.trod enc Tryz.prog W base spare held k 23 [v6] = some y6 := by have h := hf2 6 _ rfl; simpa [kS] using h
    have e0 := hcell 0 (by omega);have e1 := hcell 1 (by omega);have e2 := hcell 2 (by omega);have e3 := hcell 3 (by omega);have e4 := hcell 4 (by omega);have e5 := hcell 5 (by omega);have e6 := hcell 6 (by omega);rw [Go.Deep.add_add] at e0 e1 e2 e3 e4 e5 e6;obtain ⟨z0, q0, r0, w0⟩ := DataW.trod_int Tryz.underlying3 g0;obtain ⟨z1, q1, r1, w1⟩ := DataW.trod_int Tryz.underlying3 g1;obtain ⟨z2, q2, r2, _⟩ := DataW.trod_string Tryz.underlying9 g2;obtain ⟨z3, q3, r3, _⟩ := DataW.trod_string Tryz.underlying9 g3;obtain ⟨z4, q4, r4, _⟩ := DataW.trod_string Tryz.underlying9 g4;obtain ⟨z5, q5, r5, _⟩ := DataW.trod_string Tryz.underlying9 g5;obtain ⟨u6, z6, q6, h6S, r6⟩ := ib g6;have q0 := (aN q0).1;have q1 := (aN q1).1;have q2 := (aN q2).1;have q3 := (aN q3).1;have q4 := (aN q4).1;have q5 := (aN q5).1;have q6 := (aN q6).1;subst q0 q1 q2 q3 q4 q5 q6;refine ⟨⟨z0, z1, z2.data.toList, z3.data.toList, z4.data.toList, z5.data.toList, z6⟩, fun _ => ⟨by simpa using e0, by simpa using e1, by simpa using e2, by simpa using e3, by simpa using e4, by simpa using e5, ⟨_, by simpa using e6, h6S⟩, sC w0, sC w1, ?_⟩⟩;have e : D i = .agg [y0.1, y1.1, y2.1, y3.1, y4.1, y5.1, y6.1] := congrArg Prod.fst hy;have r2 := congrArg Prod.fst r2;have r3 := congrArg Prod.fst r3;have r4 := congrArg Prod.fst r4;have r5 := congrArg Prod.fst r5
    try simp only at r2 r3 r4 r5
    simp only [e, Rows.uptoBulk, Rows.uptoBulkAll, r2, r3, r4, r5]
    try simp only at r6
    omega
   ·exact ⟨⟨0, 0, [], [], [], [], []⟩, fun h => absurd h hi⟩
  let f := fun i => Classical.choose (each i)
  have hf : ∀ i, i < len → W.cell? (a.add (i * 7)) = some (.int .i64 (f i).op) ∧ W.cell? (a.add (i * 7 + 1)) = some (.int .i64 (f i).n) ∧ W.cell? (a.add (i * 7 + 2)) = some (.string ⟨(f i).typ.toArray⟩) ∧ W.cell? (a.add (i * 7 + 3)) = some (.string ⟨(f i).value.toArray⟩) ∧ W.cell? (a.add (i * 7 + 4)) = some (.string ⟨(f i).init.toArray⟩) ∧ W.cell? (a.add (i * 7 + 5)) = some (.string ⟨(f i).final.toArray⟩) ∧ (∃ u, W.cell? (a.add (i * 7 + 6)) = some u ∧ ct W u (f i).any) ∧ (f i).op ≤ 9223372036854775807 ∧ (f i).n ≤ 9223372036854775807 ∧ (f i).typ.length + (f i).value.length + (f i).init.length + (f i).final.length + buS (f i).any + 1 ≤ Rows.uptoBulk (D i) := fun i => Classical.choose_spec (each i)
  have hlen : ((List.range len).map f).length = len := by simp
  refine ⟨_, (List.range len).map f, rfl, ⟨some a, cap, by rw [hlen], by rw [hlen]; exact hl, fun h0 => ?_⟩, ?_, ?_⟩
  ·have hpos : 0 < len := by
    rcases Nat.eq_zero_or_pos len with h | h
    ·subst h; exact absurd rfl h0
    ·exact h
   obtain ⟨g, o, rfl⟩ := gi (hf 0 hpos).1 (by simp);refine ⟨g, o, rfl, fun j y hj => ?_⟩;have hjl : j < len := by have := (List.getElem?_eq_some_iff.1 hj).1; simpa using this
   rw [List.getElem?_map, List.getElem?_range hjl] at hj;cases hj;obtain ⟨c0, c1, c2, c3, c4, c5, ⟨u, c6, d6⟩, _⟩ := hf j hjl;rw [Addr.add_lit] at c0;rw [Addr.add_lit, ← Nat.add_assoc] at c1 c2 c3 c4 c5 c6;exact ⟨c0, c1, c2, c3, c4, c5, u, c6, d6⟩
  ·have := gM D (fun i => (f i).typ.length + (f i).value.length + (f i).init.length + (f i).final.length + buS (f i).any + 1) len (fun i hi => (hf i hi).2.2.2.2.2.2.2.2.2)
   simp only [Rows.uptoBulk, buF, List.map_map];simp only [Function.comp_def] at this ⊢
   omega
  ·intro p hp
   simp only [List.mem_map, List.mem_range] at hp;obtain ⟨i, hi, rfl⟩ := hp;exact (hf i hi).2.2.2.2.2.2.2.2.1
def buG (m : Mg) (l : Ls) : Nat := m.dn.length + m.secret.length + m.newRdn.length + m.newSup.length + m.typ.length + m.value.length + m.oid.length + m.matched.length + m.text.length + buF l.filt + buS l.sel + buM l.mods + buA l.attrs + buK l.ctl
theorem pu {H : Type} {enc : TypeId × Value → H} {W : World} {base : Nat} {spare : Nat → Bool} {held : Bool} {fuel : Nat} {cs : List Value} {x : DataW H × List MemPlace}
  (h : DataW.trod enc Tryz.prog W base spare held fuel 28 cs = some x) : ∃ m l, cs = (Mg.row m).toList ∧ MgM W m l ∧ buG m l ≤ Rows.uptoBulk x.1 ∧ ∀ p ∈ l.filt, p.n ≤ 9223372036854775807 := by
 obtain ⟨xs, n, _, rfl, hl, hlen, hf⟩ := DataW.trod_struct Tryz.underlying28 h;have c28 : Tryz.prog.cellsOf 28 = 28 := by kernel_rfl
 rw [c28] at hl;obtain ⟨v0, v1, v2, v3, v4, v5, v6, v7, v8, v9, v10, v11, v12, v13, v14, v15, v16, v17, v18, v19, v20, v21, v22, v23, v24, v25, v26, v27, rfl⟩ := qR hl;obtain ⟨y0, y1, y2, y3, y4, y5, y6, y7, y8, y9, y10, y11, y12, y13, y14, y15, y16, y17, y18, y19, y20, y21, y22, y23, y24, y25, y26, y27, rfl⟩ := qR (show xs.length = 28 from hlen);have ki : Tryz.prog.cellsOf 3 = 1 := by kernel_rfl
 have ks : Tryz.prog.cellsOf 9 = 1 := by kernel_rfl
 have kb : Tryz.prog.cellsOf 4 = 1 := by kernel_rfl
 have kvF : Tryz.prog.cellsOf 22 = 1 := by kernel_rfl
 have kvS : Tryz.prog.cellsOf 23 = 1 := by kernel_rfl
 have kvM : Tryz.prog.cellsOf 24 = 1 := by kernel_rfl
 have kvA : Tryz.prog.cellsOf 25 = 1 := by kernel_rfl
 have kvK : Tryz.prog.cellsOf 26 = 1 := by kernel_rfl
 have g0 : DataW.trod enc Tryz.prog W base spare held n 3 [v0] = some y0 := by have h := hf 0 _ rfl; simpa [ki, ks, kb, kvF, kvS, kvM, kvA, kvK] using h
 have g1 : DataW.trod enc Tryz.prog W base spare held n 3 [v1] = some y1 := by have h := hf 1 _ rfl; simpa [ki, ks, kb, kvF, kvS, kvM, kvA, kvK] using h
 have g2 : DataW.trod enc Tryz.prog W base spare held n 9 [v2] = some y2 := by have h := hf 2 _ rfl; simpa [ki, ks, kb, kvF, kvS, kvM, kvA, kvK] using h
 have g3 : DataW.trod enc Tryz.prog W base spare held n 3 [v3] = some y3 := by have h := hf 3 _ rfl; simpa [ki, ks, kb, kvF, kvS, kvM, kvA, kvK] using h
 have g4 : DataW.trod enc Tryz.prog W base spare held n 4 [v4] = some y4 := by have h := hf 4 _ rfl; simpa [ki, ks, kb, kvF, kvS, kvM, kvA, kvK] using h
 have g5 : DataW.trod enc Tryz.prog W base spare held n 9 [v5] = some y5 := by have h := hf 5 _ rfl; simpa [ki, ks, kb, kvF, kvS, kvM, kvA, kvK] using h
 have g6 : DataW.trod enc Tryz.prog W base spare held n 3 [v6] = some y6 := by have h := hf 6 _ rfl; simpa [ki, ks, kb, kvF, kvS, kvM, kvA, kvK] using h
 have g7 : DataW.trod enc Tryz.prog W base spare held n 3 [v7] = some y7 := by have h := hf 7 _ rfl; simpa [ki, ks, kb, kvF, kvS, kvM, kvA, kvK] using h
 have g8 : DataW.trod enc Tryz.prog W base spare held n 3 [v8] = some y8 := by have h := hf 8 _ rfl; simpa [ki, ks, kb, kvF, kvS, kvM, kvA, kvK] using h
 have g9 : DataW.trod enc Tryz.prog W base spare held n 3 [v9] = some y9 := by have h := hf 9 _ rfl; simpa [ki, ks, kb, kvF, kvS, kvM, kvA, kvK] using h
 have g10 : DataW.trod enc Tryz.prog W base spare held n 4 [v10] = some y10 := by have h := hf 10 _ rfl; simpa [ki, ks, kb, kvF, kvS, kvM, kvA, kvK] using h
 have g11 : DataW.trod enc Tryz.prog W base spare held n 22 [v11] = some y11 := by have h := hf 11 _ rfl; simpa [ki, ks, kb, kvF, kvS, kvM, kvA, kvK] using h
 have g12 : DataW.trod enc Tryz.prog W base spare held n 23 [v12] = some y12 := by have h := hf 12 _ rfl; simpa [ki, ks, kb, kvF, kvS, kvM, kvA, kvK] using h
 have g13 : DataW.trod enc Tryz.prog W base spare held n 24 [v13] = some y13 := by have h := hf 13 _ rfl; simpa [ki, ks, kb, kvF, kvS, kvM, kvA, kvK] using h
 have g14 : DataW.trod enc Tryz.prog W base spare held n 25 [v14] = some y14 := by have h := hf 14 _ rfl; simpa [ki, ks, kb, kvF, kvS, kvM, kvA, kvK] using h
 have g15 : DataW.trod enc Tryz.prog W base spare held n 9 [v15] = some y15 := by have h := hf 15 _ rfl; simpa [ki, ks, kb, kvF, kvS, kvM, kvA, kvK] using h
 have g16 : DataW.trod enc Tryz.prog W base spare held n 9 [v16] = some y16 := by have h := hf 16 _ rfl; simpa [ki, ks, kb, kvF, kvS, kvM, kvA, kvK] using h
 have g17 : DataW.trod enc Tryz.prog W base spare held n 4 [v17] = some y17 := by have h := hf 17 _ rfl; simpa [ki, ks, kb, kvF, kvS, kvM, kvA, kvK] using h
 have g18 : DataW.trod enc Tryz.prog W base spare held n 4 [v18] = some y18 := by have h := hf 18 _ rfl; simpa [ki, ks, kb, kvF, kvS, kvM, kvA, kvK] using h
 have g19 : DataW.trod enc Tryz.prog W base spare held n 9 [v19] = some y19 := by have h := hf 19 _ rfl; simpa [ki, ks, kb, kvF, kvS, kvM, kvA, kvK] using h
 have g20 : DataW.trod enc Tryz.prog W base spare held n 9 [v20] = some y20 := by have h := hf 20 _ rfl; simpa [ki, ks, kb, kvF, kvS, kvM, kvA, kvK] using h
 have g21 : DataW.trod enc Tryz.prog W base spare held n 9 [v21] = some y21 := by have h := hf 21 _ rfl; simpa [ki, ks, kb, kvF, kvS, kvM, kvA, kvK] using h
 have g22 : DataW.trod enc Tryz.prog W base spare held n 4 [v22] = some y22 := by have h := hf 22 _ rfl; simpa [ki, ks, kb, kvF, kvS, kvM, kvA, kvK] using h
 have g23 : DataW.trod enc Tryz.prog W base spare held n 3 [v23] = some y23 := by have h := hf 23 _ rfl; simpa [ki, ks, kb, kvF, kvS, kvM, kvA, kvK] using h
 have g24 : DataW.trod enc Tryz.prog W base spare held n 3 [v24] = some y24 := by have h := hf 24 _ rfl; simpa [ki, ks, kb, kvF, kvS, kvM, kvA, kvK] using h
 have g25 : DataW.trod enc Tryz.prog W base spare held n 9 [v25] = some y25 := by have h := hf 25 _ rfl; simpa [ki, ks, kb, kvF, kvS, kvM, kvA, kvK] using h
 have g26 : DataW.trod enc Tryz.prog W base spare held n 9 [v26] = some y26 := by have h := hf 26 _ rfl; simpa [ki, ks, kb, kvF, kvS, kvM, kvA, kvK] using h
 have g27 : DataW.trod enc Tryz.prog W base spare held n 26 [v27] = some y27 := by have h := hf 27 _ rfl; simpa [ki, ks, kb, kvF, kvS, kvM, kvA, kvK] using h
 clear hf;obtain ⟨z0, q0, r0, _⟩ := DataW.trod_int Tryz.underlying3 g0;obtain ⟨z1, q1, r1, _⟩ := DataW.trod_int Tryz.underlying3 g1;obtain ⟨z2, q2, r2, _⟩ := DataW.trod_string Tryz.underlying9 g2;obtain ⟨z3, q3, r3, _⟩ := DataW.trod_int Tryz.underlying3 g3;obtain ⟨z4, q4, r4⟩ := DataW.trod_bool Tryz.underlying4 g4;obtain ⟨z5, q5, r5, _⟩ := DataW.trod_string Tryz.underlying9 g5;obtain ⟨z6, q6, r6, _⟩ := DataW.trod_int Tryz.underlying3 g6;obtain ⟨z7, q7, r7, _⟩ := DataW.trod_int Tryz.underlying3 g7;obtain ⟨z8, q8, r8, _⟩ := DataW.trod_int Tryz.underlying3 g8;obtain ⟨z9, q9, r9, _⟩ := DataW.trod_int Tryz.underlying3 g9;obtain ⟨z10, q10, r10⟩ := DataW.trod_bool Tryz.underlying4 g10;obtain ⟨u11, z11, q11, h11S, r11, w11⟩ := qU g11;obtain ⟨u12, z12, q12, h12S, r12⟩ := ib g12;obtain ⟨u13, z13, q13, h13S, r13⟩ := qS g13;obtain ⟨u14, z14, q14, h14S, r14⟩ := pt g14;obtain ⟨z15, q15, r15, _⟩ := DataW.trod_string Tryz.underlying9 g15;obtain ⟨z16, q16, r16, _⟩ := DataW.trod_string Tryz.underlying9 g16;obtain ⟨z17, q17, r17⟩ := DataW.trod_bool Tryz.underlying4 g17;obtain ⟨z18, q18, r18⟩ := DataW.trod_bool Tryz.underlying4 g18;obtain ⟨z19, q19, r19, _⟩ := DataW.trod_string Tryz.underlying9 g19;obtain ⟨z20, q20, r20, _⟩ := DataW.trod_string Tryz.underlying9 g20;obtain ⟨z21, q21, r21, _⟩ := DataW.trod_string Tryz.underlying9 g21;obtain ⟨z22, q22, r22⟩ := DataW.trod_bool Tryz.underlying4 g22;obtain ⟨z23, q23, r23, _⟩ := DataW.trod_int Tryz.underlying3 g23;obtain ⟨z24, q24, r24, _⟩ := DataW.trod_int Tryz.underlying3 g24;obtain ⟨z25, q25, r25, _⟩ := DataW.trod_string Tryz.underlying9 g25;obtain ⟨z26, q26, r26, _⟩ := DataW.trod_string Tryz.underlying9 g26;obtain ⟨u27, z27, q27, h27S, r27⟩ := qT g27;have q0 := (aN q0).1;have q1 := (aN q1).1;have q2 := (aN q2).1;have q3 := (aN q3).1;have q4 := (aN q4).1;have q5 := (aN q5).1;have q6 := (aN q6).1;have q7 := (aN q7).1;have q8 := (aN q8).1;have q9 := (aN q9).1;have q10 := (aN q10).1;have q11 := (aN q11).1;have q12 := (aN q12).1;have q13 := (aN q13).1;have q14 := (aN q14).1;have q15 := (aN q15).1;have q16 := (aN q16).1;have q17 := (aN q17).1;have q18 := (aN q18).1;have q19 := (aN q19).1;have q20 := (aN q20).1;have q21 := (aN q21).1;have q22 := (aN q22).1;have q23 := (aN q23).1;have q24 := (aN q24).1;have q25 := (aN q25).1;have q26 := (aN q26).1;have q27 := (aN q27).1;subst q0 q1 q2 q3 q4 q5 q6 q7 q8 q9 q10 q11 q12 q13 q14 q15 q16 q17 q18 q19 q20 q21 q22 q23 q24 q25 q26 q27;refine ⟨{ id := z0, op := z1, dn := z2.data.toList, ver := z3, sasl := z4, secret := z5.data.toList, scope := z6, deref := z7, size := z8, time := z9, types := z10, filt := v11, sel := v12, mods := v13, attrs := v14, newRdn := z15.data.toList, newSup := z16.data.toList, delOld := z17, hasSup := z18, typ := z19.data.toList, value := z20.data.toList, oid := z21.data.toList, has := z22, target := z23, code := z24, matched := z25.data.toList, text := z26.data.toList, ctl := v27 }, ⟨z11, z12, z13, z14, z27⟩, by simp [Mg.row], ⟨h11S, h12S, h13S, h14S, h27S⟩, ?_, w11⟩
 have r2 := congrArg Prod.fst r2;have r5 := congrArg Prod.fst r5;have r15 := congrArg Prod.fst r15;have r16 := congrArg Prod.fst r16;have r19 := congrArg Prod.fst r19;have r20 := congrArg Prod.fst r20;have r21 := congrArg Prod.fst r21;have r25 := congrArg Prod.fst r25;have r26 := congrArg Prod.fst r26
 try simp only at r2 r5 r15 r16 r19 r20 r21 r25 r26
 simp only [List.map_cons, List.map_nil, Rows.uptoBulk, Rows.uptoBulkAll, r2, r5, r15, r16, r19, r20, r21, r25, r26, buG]
 omega
theorem si {H : Type} {enc : TypeId × Value → H} {W : World} {base b0 : Nat} {spare : Nat → Bool} {held : Bool} {r : Reach} {v : Value} {d : DataW H} {p : List MemPlace}
  (hv : Value.okWide Tryz.prog W r b0 28 v) (h : DataW.Trod enc Tryz.prog W base spare held 28 v d p) :
  ∃ m l, v = .agg (Mg.row m) ∧ MgM W m l ∧ buG m l ≤ Rows.uptoBulk d ∧ ∀ p ∈ l.filt, p.n ≤ 9223372036854775807 := by
 obtain ⟨cs, rfl, _⟩ := okWide_struct Tryz.underlying28 hv;obtain ⟨fuel, hf⟩ := h;obtain ⟨m, l, hc, h1, h2⟩ := pu hf;refine ⟨m, l, ?_, h1, h2⟩;rw [Array.toList_inj.1 (show cs.toList = (Mg.row m).toList from hc)]
theorem gz {α : Type} (f : α → Nat) : ∀ (l : List α) (x : α), x ∈ l → f x ≤ (l.map f).sum
 | y :: l, x, h => by
  rcases aY.1 h with rfl | h
  ·simp
  ·have := gz f l x h; simp; omega
theorem gA {α : Type} (f : α → Nat) (hf : ∀ x, 1 ≤ f x) : ∀ (l : List α), l.length ≤ (l.map f).sum
 | [] => by simp
 | y :: l => by have := gA f hf l; have := hf y; simp; omega
theorem kH {ls : List (List UInt8)} {n : Nat} (h : buS ls ≤ n) : ls.length ≤ n ∧ ∀ s ∈ ls, s.length ≤ n := by
 unfold buS at h;refine ⟨by have := gA (fun l : List UInt8 => l.length + 1) (by intro x; omega) ls; omega, fun s hs => ?_⟩;have := gz (fun l : List UInt8 => l.length + 1) ls s hs
 try simp only at this
 omega
theorem tq {m : Mg} {l : Ls} (h : buG m l ≤ 1048576) (hn : ∀ p ∈ l.filt, p.n ≤ 9223372036854775807) : LsOk m l := by
 unfold buG at h;have s1 := kH (ls := l.sel) (n := 1048576) (by omega);have lf := gA (fun p : Fl => p.typ.length + p.value.length + p.init.length + p.final.length + buS p.any + 1) (by intro x; omega) l.filt;have lm := gA (fun x : Md => x.2.1.length + buS x.2.2 + 1) (by intro x; omega) l.mods;have la := gA (fun x : List UInt8 × List (List UInt8) => x.1.length + buS x.2 + 1) (by intro x; omega) l.attrs;have lk := gA (fun x : Ct => x.oid.length + x.value.length + 1) (by intro x; omega) l.ctl;simp only [buF, buM, buA, buK] at h;refine ⟨by omega, by omega, by omega, by omega, by omega, by omega, by omega, by omega, by omega, ⟨by omega, fun p hp => ?_⟩, by omega, fun s hs => ?_, by omega, fun x hx => ?_, ⟨by omega, fun x hx => ?_⟩, by omega, fun c hc => ?_⟩
 ·have := gz (fun p : Fl => p.typ.length + p.value.length + p.init.length + p.final.length + buS p.any + 1) l.filt p hp
  try simp only at this
  have hb := kH (ls := p.any) (n := 1048576) (by omega);exact ⟨⟨by omega, by omega, by omega, by omega, by omega, fun s hs => by have := hb.2 s hs; omega⟩, hn p hp⟩
 ·have := s1.2 s hs; omega
 ·have := gz (fun x : Md => x.2.1.length + buS x.2.2 + 1) l.mods x hx
  try simp only at this
  have hb := kH (ls := x.2.2) (n := 1048576) (by omega);exact ⟨by omega, by omega, fun s hs => by have := hb.2 s hs; omega⟩
 ·have := gz (fun x : List UInt8 × List (List UInt8) => x.1.length + buS x.2 + 1) l.attrs x hx
  try simp only at this
  have hb := kH (ls := x.2) (n := 1048576) (by omega)
  first | exact ⟨by omega, by omega, fun s hs => by have := hb.2 s hs; omega⟩ | exact ⟨by omega, ⟨by omega, fun s hs => by have := hb.2 s hs; omega⟩⟩
 ·have := gz (fun x : Ct => x.oid.length + x.value.length + 1) l.ctl c hc
  try simp only at this
  exact ⟨by omega, by omega⟩
end Go.Proofs.YthjaiigijbjloaaGreatDoor
