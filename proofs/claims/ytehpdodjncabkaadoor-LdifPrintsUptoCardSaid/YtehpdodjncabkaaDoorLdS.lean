/- ldif: how lines lie in memory; what takes the value of a line of a name. -/
import Derived.Test.YtehpdodjncabkaaDoorPlainRd
import Derived.Test.YtehpdodjncabkaaDoorLdQ
namespace Go.Proofs.YtehpdodjncabkaaDoor
open Go.RowKit Go.Lib

def PairsAt (R B : Nat) (w : World) (v : Value) (l : List Pr) : Prop :=
  ∃ a cap, v = .slice a l.length cap ∧ l.length ≤ cap ∧ (l ≠ [] → ∃ g o, a = some ⟨g, o, none⟩ ∧ g ≠ R ∧ g < B ∧ ∀ (j : Nat) (x : Pr), l[j]? = some x → w.cell? ⟨g, o + j * 2, none⟩ = some (.string ⟨x.1.toArray⟩) ∧ w.cell? ⟨g, o + j * 2 + 1, none⟩ = some (.string ⟨x.2.toArray⟩))
/-- A reader whose lines are l. -/
def RdAt (w : World) (R B : Nat) (l : List Pr) : Prop :=
  ∃ v, w.heap[R]? = some (.cells #[v] 79 (0, 0)) ∧ PairsAt R B w v l
theorem PairsAt.kept {R B : Nat} {w w' : World} {v : Value} {l : List Pr} (h : PairsAt R B w v l) (hg : ∀ j, j < B → j ≠ R → w'.heap[j]? = w.heap[j]?) : PairsAt R B w' v l := by
  obtain ⟨a, cap, hv, hc, hr⟩ := h
  refine ⟨a, cap, hv, hc, fun h0 => ?_⟩
  obtain ⟨g, o, ha, hgR, hgB, hcell⟩ := hr h0
  refine ⟨g, o, ha, hgR, hgB, fun j x hj => ?_⟩
  obtain ⟨h1, h2⟩ := hcell j x hj
  have hb := hg g hgB hgR
  exact ⟨(World.cell?_of_block (a := ⟨g, o + j * 2, none⟩) hb).trans h1, (World.cell?_of_block (a := ⟨g, o + j * 2 + 1, none⟩) hb).trans h2⟩
theorem RdAt.kept {R B : Nat} {w w' : World} {l : List Pr} (h : RdAt w R B l) (hg : ∀ j, j < B ∨ j = R → w'.heap[j]? = w.heap[j]?) : RdAt w' R B l := by
  obtain ⟨v, h1, h2⟩ := h
  exact ⟨v, (hg R (.inr rfl)).trans h1, h2.kept (fun j hj _ => hg j (.inl hj))⟩
theorem PairsAt.tail {R B : Nat} {w : World} {a : Option Addr} {cap : Nat} {g o : Nat} {p : Pr} {t : List Pr} (hc : t.length + 1 ≤ cap) (hgR : g ≠ R) (hgB : g < B)
    (h : ∀ (j : Nat) (x : Pr), (p :: t)[j]? = some x → w.cell? ⟨g, o + j * 2, none⟩ = some (.string ⟨x.1.toArray⟩) ∧ w.cell? ⟨g, o + j * 2 + 1, none⟩ = some (.string ⟨x.2.toArray⟩))
    (ha : t ≠ [] → a = some ⟨g, o + 2, none⟩) : PairsAt R B w (.slice a t.length (cap - 1)) t :=
  ⟨a, cap - 1, rfl, by omega, fun h0 => ⟨g, o + 2, ha h0, hgR, hgB, fun j x hj => by
    have := h (j + 1) x (by simpa using hj)
    rw [show o + 2 + j * 2 = o + (j + 1) * 2 by omega]
    exact this⟩⟩
theorem setCell_one {w : World} {R : Nat} {v u : Value} {t : TypeId} (h : w.heap[R]? = some (.cells #[v] t (0, 0))) : (w.setCell ⟨R, 0, none⟩ u).heap[R]? = some (.cells #[u] t (0, 0)) := by
  simp [World.setCell, Array.getElem?_modify, h]
theorem grown_set (w : World) (b i : Nat) (v : Value) : w.grownBy (w.setCell ⟨b, i, none⟩ v) (some b) :=
  ⟨rfl, rfl, rfl, Nat.le_of_eq (by simp), fun k _ hne => Below.heap_setCell w ⟨b, i, none⟩ v k (fun e => hne (congrArg some e))⟩
theorem grown_below {w w' : World} {row : Option Nat} (h : Below w.heap.size w w') : w.grownBy w' row := ⟨h.os, h.tape, h.output, h.size, fun k hk _ => h.block k hk⟩
theorem rd_done {w w1 : World} {R B : Nat} (hBw : B ≤ w.heap.size) {v v' : Value} {t : List Pr} (hR : w.heap[R]? = some (.cells #[v] 79 (0, 0))) (hP : PairsAt R B w v' t)
    (hb : Below (w.setCell ⟨R, 0, none⟩ v').heap.size (w.setCell ⟨R, 0, none⟩ v') w1) : RdAt w1 R B t ∧ w.grownBy w1 (some R) := by
  have g1 := grown_set w R 0 v'
  have g2 := g1.trans (grown_below (row := some R) hb)
  have hs := setCell_one (u := v') hR
  exact ⟨⟨v', (hb.block R (Array.getElem?_eq_some_iff.1 hs).1).trans hs, hP.kept (fun j hj hne => g2.block j (by omega) (fun e => hne (by injection e)))⟩, g2⟩
theorem Clone_any (s : List UInt8) (w : World) (hs : s.length ≤ 1099511627776) :
    Calls Tryd.prog 67 #[.string ⟨s.toArray⟩] w fun e w' => e = .returned (.string ⟨s.toArray⟩) ∧ Below w.heap.size w w' := by
  have hz : (⟨s.toArray⟩ : ByteArray).size ≤ 281474976710656 := by rw [Lib.size_mk]; omega
  go_enter Tryd.func67, Tryd.ntmps67
  go_wp2_with (go_at_call 83; refine Calls.mono (show Calls _ _ _ _ _ from Tryd.stringslite_Clone _ _ hz) ?_; rintro e w1 ⟨rfl, hb1⟩)
  go_ret
  exact ⟨rfl, hb1⟩
set_option maxRecDepth 100000 in
set_option maxHeartbeats 1000000 in
theorem next_any (R B : Nat) (n : List UInt8) (l : List Pr) (w : World) (h : RdAt w R B l) (hBw : B ≤ w.heap.size) (hn : ∀ p ∈ l, p.2.length ≤ 1000000000) (hl : l.length ≤ 1000000000) :
    Calls Tryd.prog 66 #[.pointer (some ⟨R, 0, none⟩), .string ⟨n.toArray⟩] w fun e w' => e = .returned (.tuple #[.string ⟨(nxV n l).toArray⟩, .bool (nxB n l)]) ∧ RdAt w' R B (nxL n l) ∧ w.grownBy w' (some R) := by
  obtain ⟨v, hR, hP⟩ := h
  have hP' := hP
  obtain ⟨a, cap, rfl, hc, hr⟩ := hP
  have hcell : w.cell? ⟨R, 0, none⟩ = some (.slice a l.length cap) := by rw [Lib.cell_of_heap hR]; rfl
  have hfr : w.frozen? ⟨R, 0, none⟩ = false := Lib.frozen_of_heap hR 0
  cases l with
  | nil =>
    go_enter Tryd.func66, Tryd.ntmps66
    go_wp2_with fail
    go_ret2
    exact ⟨rfl, ⟨_, hR, hP'⟩, World.grownBy.refl _ _⟩
  | cons p t =>
    obtain ⟨g, o, rfl, hgR, hgB, hcc⟩ := hr (by simp)
    have c0 := (hcc 0 p rfl).1
    have c1 := (hcc 0 p rfl).2
    rw [Nat.zero_mul, Nat.add_zero] at c0 c1
    have hlen : (p :: t).length = t.length + 1 := rfl
    rw [hlen] at hcell hc hR
    by_cases hpn : p.1 = n
    · have e1 : nxV n (p :: t) = p.2 := by simp [nxV, hpn]
      have e2 : nxB n (p :: t) = true := by simp [nxB, hpn]
      have e3 : nxL n (p :: t) = t := by simp [nxL, hpn]
      rw [e1, e2, e3]
      have hv := hn p (by simp)
      have b1 : (n == n) = true := by simp
      have htl : t.length ≤ 1000000000 := by simp at hl; omega
      rw [hpn] at c0
      have kc := fun w' => Clone_any p.2 w' (by omega)
      by_cases hcap : cap = 1
      · subst hcap
        have ht0 : t = [] := List.length_eq_zero_iff.1 (by omega)
        subst ht0
        have HC := Lib.hid hcc
        clear e1 e2 e3 hcc hr hP' hlen hpn
        go_enter Tryd.func66, Tryd.ntmps66
        go_wp2_with (go_at_call 67; refine Calls.mono (show Calls _ _ _ _ _ from kc _) ?_; rintro e w1 ⟨rfl, hb1⟩)
        go_ret2
        exact ⟨rfl, rd_done hBw hR (PairsAt.tail (a := some ⟨g, o, none⟩) (cap := 1) (t := []) (p := p) (by simp) hgR hgB HC.out (fun h => absurd rfl h)) hb1⟩
      · have hc2 : decide ((1 : Int) < (cap : Int)) = true := decide_eq_true (by omega)
        have hcap1 : ¬ (1 = cap) := fun e => hcap e.symm
        have hcap2 : ¬ (cap = 1) := hcap
        have hcp : 1 ≤ cap := by omega
        have HC := Lib.hid hcc
        clear e1 e2 e3 hcc hr hP' hlen hpn
        go_enter Tryd.func66, Tryd.ntmps66
        go_wp2_with (go_at_call 67; refine Calls.mono (show Calls _ _ _ _ _ from kc _) ?_; rintro e w1 ⟨rfl, hb1⟩)
        go_ret2
        exact ⟨rfl, rd_done hBw hR (PairsAt.tail (a := some ⟨g, o + 2, none⟩) (p := p) (by omega) hgR hgB HC.out (fun h => rfl)) hb1⟩
    · have e1 : nxV n (p :: t) = [] := by simp [nxV, hpn]
      have e2 : nxB n (p :: t) = false := by simp [nxB, hpn]
      have e3 : nxL n (p :: t) = p :: t := by simp [nxL, hpn]
      rw [e1, e2, e3]
      have b1 : (p.1 == n) = false := by simp [hpn]
      clear e1 e2 e3 hcc hr
      go_enter Tryd.func66, Tryd.ntmps66
      go_wp2_with fail
      go_ret2
      exact ⟨rfl, ⟨_, hR, hP'⟩, World.grownBy.refl _ _⟩
set_option maxRecDepth 100000 in
set_option maxHeartbeats 1000000 in
theorem next_no (R B : Nat) (n : List UInt8) (l : List Pr) (w : World) (h : RdAt w R B l) (hno : nxB n l = false) :
    Calls Tryd.prog 66 #[.pointer (some ⟨R, 0, none⟩), .string ⟨n.toArray⟩] w fun e w' => e = .returned (.tuple #[.string ⟨#[]⟩, .bool false]) ∧ w = w' := by
  obtain ⟨v, hR, hP⟩ := h
  obtain ⟨a, cap, rfl, hc, hr⟩ := hP
  have hcell : w.cell? ⟨R, 0, none⟩ = some (.slice a l.length cap) := by rw [Lib.cell_of_heap hR]; rfl
  cases l with
  | nil =>
    go_enter Tryd.func66, Tryd.ntmps66
    go_wp2_with fail
    go_ret2
    exact ⟨rfl, rfl⟩
  | cons p t =>
    obtain ⟨g, o, rfl, hgR, hgB, hcc⟩ := hr (by simp)
    have c0 := (hcc 0 p rfl).1
    rw [Nat.zero_mul, Nat.add_zero] at c0
    have hlen : (p :: t).length = t.length + 1 := rfl
    rw [hlen] at hcell hc hR
    have b1 : (p.1 == n) = false := hno
    have hpn : ¬ p.1 = n := by simpa using b1
    clear hcc hr hno
    go_enter Tryd.func66, Tryd.ntmps66
    go_wp2_with fail
    go_ret2
    exact ⟨rfl, rfl⟩
end Go.Proofs.YtehpdodjncabkaaDoor
