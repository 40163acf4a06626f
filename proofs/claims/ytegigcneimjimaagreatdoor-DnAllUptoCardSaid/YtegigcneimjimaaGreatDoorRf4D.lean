/- chanceryref4's desk: is, blanks. -/
import Derived.Test.YtegigcneimjimaaGreatDoorDnR
namespace Go.Proofs.YtegigcneimjimaaGreatDoor
open Go.RowKit Go.Lib

/-- Where a desk stands. -/
def DAt (w : World) (b : Nat) (s : List UInt8) (k : Nat) : Prop := w.heap[b]? = some (.cells #[.string ⟨s.toArray⟩, .int .i64 (k : Int)] 263 (0, 0))
theorem DAt.cells {w : World} {b k : Nat} {s : List UInt8} (h : DAt w b s k) : w.cell? ⟨b, 0, none⟩ = some (.string ⟨s.toArray⟩) ∧ w.cell? ⟨b, 1, none⟩ = some (.int .i64 (k : Int)) ∧ w.frozen? ⟨b, 1, none⟩ = false :=
  ⟨by rw [Lib.cell_of_heap h]; rfl, by rw [Lib.cell_of_heap h]; rfl, Lib.frozen_of_heap h 1⟩
theorem DAt.lt {w : World} {b k : Nat} {s : List UInt8} (h : DAt w b s k) : b < w.heap.size := (Array.getElem?_eq_some_iff.1 h).1
theorem DAt.below {w w' : World} {b k : Nat} {s : List UInt8} (h : DAt w b s k) (hb : Below w.heap.size w w') : DAt w' b s k := (hb.block b h.lt).trans h
theorem DAt.set {w : World} {b k : Nat} {s : List UInt8} (h : DAt w b s k) (j : Nat) : DAt (w.setCell ⟨b, 1, none⟩ (.int .i64 (j : Int))) b s j := by
  unfold DAt
  rw [heap_setCell_same w b 1 _ _ _ h]
  rfl
theorem DAt.set1 {w : World} {b k : Nat} {s : List UInt8} (h : DAt w b s k) : DAt (w.setCell ⟨b, 1, none⟩ (.int .i64 ((k : Int) + 1))) b s (k + 1) := h.set (k + 1)
theorem DAt.drewN {w : World} {b k : Nat} {s : List UInt8} (h : DAt w b s k) (n : Nat) : DAt (w.drewN n) b s k := h
theorem DAt.pos {w : World} {b k : Nat} {s : List UInt8} (h : DAt w b s k) : posOf w b = k := by
  unfold posOf
  rw [h.cells.2.1]
  simp [RowKit.intOf]
/-- A desk and what is left of its text. -/
def Dd (w : World) (b : Nat) (s r : List UInt8) : Prop := ∃ k, k ≤ s.length ∧ s.drop k = r ∧ DAt w b s k
set_option maxRecDepth 100000 in
set_option maxHeartbeats 2000000 in
theorem dis_any (b k : Nat) (s r : List UInt8) (c : UInt8) (w : World) (h : DAt w b s k) (hk : k ≤ s.length) (hr : s.drop k = r) :
    Calls Tryz.prog 205 #[.pointer (some ⟨b, 0, none⟩), .int .u8 (c.toNat : Int)] w fun e w' => e = .returned (.bool (headIs r c)) ∧ ∃ m, w' = w.drewN m := by
  obtain ⟨q0, q1, q2⟩ := h.cells
  clear h
  cases r with
  | nil =>
    have hkl : k = s.length := by have := congrArg List.length hr; simp at this; omega
    have e1 : ¬ k < s.length := by omega
    have e3 : decide (k < s.length) = false := decide_eq_false e1
    clear hr hkl
    show Calls _ _ _ _ fun e w' => e = .returned (.bool false) ∧ _
    go_enter Tryz.func205, Tryz.ntmps205
    go_wp2
    go_quiet (fail)
    go_wp2
    go_ret
    exact ⟨rfl, _, rfl⟩
  | cons x t =>
    obtain ⟨hl, _⟩ := drop_lt hr
    have e1 : decide ((k : Int) < (s.length : Int)) = true := decide_eq_true (by omega)
    have e2 : (k : Int) < (s.length : Int) := by omega
    have hb := fun h' => byte_at hr h'
    have hxc : ((x.toNat : Int) == (c.toNat : Int)) = (x == c) := by
      rw [beq_nat, Bool.eq_iff_iff]
      simp only [beq_iff_eq]
      exact ⟨UInt8.toNat.inj, fun h => by rw [h]⟩
    show Calls _ _ _ _ fun e w' => e = .returned (.bool (x == c)) ∧ _
    generalize (x == c) = p at hxc ⊢
    clear hr
    go_enter Tryz.func205, Tryz.ntmps205
    go_wp2
    go_quiet (fail)
    go_wp2
    go_ret
    exact ⟨rfl, _, rfl⟩
def DbRel (w : World) (b : Nat) (s ANS : List UInt8) (wr : World) : Prop := ∃ k, k ≤ s.length ∧ DAt wr b s k ∧ Kept b w wr ∧ blanksB (s.drop k) = ANS
set_option maxRecDepth 100000 in
set_option maxHeartbeats 2000000 in
theorem dblanks_any (b : Nat) (s r : List UInt8) (w : World) (h : Dd w b s r) (hs : s.length ≤ 1099511627776) :
    Calls Tryz.prog 251 #[.pointer (some ⟨b, 0, none⟩)] w fun e w' => e = .returned (.tuple #[]) ∧ (Dd w' b s (blanksB r) ∧ Kept b w w') := by
  obtain ⟨k, hk, rfl, h⟩ := h
  obtain ⟨ANS, hA⟩ : ∃ ANS, blanksB (s.drop k) = ANS := ⟨_, rfl⟩
  rw [hA]
  have HA := Lib.hid hA
  clear hA
  go_enter Tryz.func251, Tryz.ntmps251
  go_wp2_with fail
  go_loopw [] (fun wr => DbRel w b s ANS wr) (fun wr => s.length - posOf wr b)
  case atStart => exact ⟨k, hk, h, Kept.refl _ _, HA.out⟩
  case round =>
    clear HA h hk
    obtain ⟨k, hk, h, hkp, hans⟩ := hrel
    obtain ⟨r, hr⟩ : ∃ r, s.drop k = r := ⟨_, rfl⟩
    rw [hr] at hans
    have hpos := h.pos
    obtain ⟨q0, q1, q2⟩ := h.cells
    cases r with
    | nil =>
      have e : ANS = [] := by rw [← hans]; rfl
      subst e
      have hkl : k = s.length := by have := congrArg List.length hr; simp at this; omega
      have e1 : ¬ k < s.length := by omega
      have e3 : decide (k < s.length) = false := decide_eq_false e1
      clear hkl
      go_wp2
      go_quiet (fail)
      go_wp2
      go_end0
      exact ⟨rfl, ⟨k, hk, hr, h.drewN _⟩, hkp.trans (Kept.of_below (Below.drewN (Below.refl _ _) _))⟩
    | cons x t =>
      obtain ⟨hlt, hdr⟩ := drop_lt hr
      have e1 : decide ((k : Int) < (s.length : Int)) = true := decide_eq_true (by omega)
      have e2 : (k : Int) < (s.length : Int) := by omega
      have hb := fun h' => byte_at hr h'
      have xb : ((x.toNat : Int) == 32) = (x == 32) := (beq_nat _ 32).trans (u8_beq x 32 (by decide)).symm
      by_cases hx : x = 32
      · subst hx
        have e : blanksB (s.drop (k + 1)) = ANS := by rw [hdr, ← hans]; rfl
        have HE := Lib.hid e
        clear e hans xb
        go_wp2
        go_quiet (fail)
        have h1 : DAt (wr.drewN nq) b s k := h.drewN nq
        have hkp1 : Kept b w (wr.drewN nq) := hkp.trans (Kept.of_below (Below.drewN (Below.refl _ _) nq))
        have hpos2 : posOf wr b = k := hpos
        clear q0 q1 q2
        generalize wr.drewN nq = w1 at h1 hkp1 ⊢
        obtain ⟨q0, q1, q2⟩ := h1.cells
        go_wp2
        go_roundw
        case rel => exact ⟨k + 1, hlt, h1.set1, hkp1.trans (Kept.set b w1 1 _), HE.out⟩
        case measure => rw [hpos2, h1.set1.pos]; omega
      · have e : ANS = x :: t := by rw [← hans]; unfold blanksB; rw [List.dropWhile_cons_of_neg (by simpa using hx)]
        subst e
        rw [show (x == 32) = false by simpa using hx] at xb
        go_wp2
        go_quiet (fail)
        go_wp2
        go_end0
        exact ⟨rfl, ⟨k, hk, hr, h.drewN _⟩, hkp.trans (Kept.of_below (Below.drewN (Below.refl _ _) _))⟩
end Go.Proofs.YtegigcneimjimaaGreatDoor
