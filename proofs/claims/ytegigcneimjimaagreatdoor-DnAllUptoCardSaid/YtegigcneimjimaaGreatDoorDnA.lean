/- dn: the small tests of a byte; the reader's place. -/
import Derived.Test.YtegigcneimjimaaGreatDoorBase
import Derived.Test.YtegigcneimjimaaGreatDoorPlainDn
import Derived.Deep.QuietTactic
import Derived.BigQuiet
namespace Go.Proofs.YtegigcneimjimaaGreatDoor
open Go.RowKit Go.Lib

theorem dec_le (a n : Nat) : decide ((a : Int) ≤ (n : Int)) = decide (a ≤ n) := decide_eq_decide.2 (by omega)
theorem beq_nat (n a : Nat) : (((n : Int) == (a : Int))) = (n == a) := by rw [Bool.eq_iff_iff]; simp; omega
theorem u8_beq (c : UInt8) (a : Nat) (h : a < 256) : (c == UInt8.ofNat a) = (c.toNat == a) := by
  rw [Bool.eq_iff_iff]
  simp only [beq_iff_eq]
  constructor
  · rintro rfl; rw [UInt8.toNat_ofNat']; omega
  · intro e; rw [← e]; simp
set_option maxRecDepth 100000 in
set_option maxHeartbeats 2000000 in
theorem isLetter_any (c : UInt8) (w : World) :
    Calls Tryz.prog 195 #[.int .u8 (c.toNat : Int)] w fun e w' => e = .returned (.bool (letB c)) ∧ w = w' := by
  unfold letB
  obtain ⟨n, hn⟩ : ∃ n, c.toNat = n := ⟨_, rfl⟩
  rw [hn]
  clear hn
  have h0 : decide ((97 : Int) ≤ (n : Int)) = decide (97 ≤ n) := dec_le 97 n
  have h1 : decide ((n : Int) ≤ (122 : Int)) = decide (n ≤ 122) := dec_le n 122
  have h2 : decide ((65 : Int) ≤ (n : Int)) = decide (65 ≤ n) := dec_le 65 n
  have h3 : decide ((n : Int) ≤ (90 : Int)) = decide (n ≤ 90) := dec_le n 90
  generalize decide (97 ≤ n) = p at h0 ⊢
  generalize decide (n ≤ 122) = q at h1 ⊢
  generalize decide (65 ≤ n) = r at h2 ⊢
  generalize decide (n ≤ 90) = t at h3 ⊢
  cases p <;> cases q <;> cases r <;> cases t <;> (go_enter Tryz.func195, Tryz.ntmps195; go_wp2; go_ret; exact ⟨rfl, rfl⟩)
set_option maxRecDepth 100000 in
set_option maxHeartbeats 2000000 in
theorem isDigit_any (c : UInt8) (w : World) :
    Calls Tryz.prog 248 #[.int .u8 (c.toNat : Int)] w fun e w' => e = .returned (.bool (digB c)) ∧ w = w' := by
  unfold digB
  obtain ⟨n, hn⟩ : ∃ n, c.toNat = n := ⟨_, rfl⟩
  rw [hn]
  clear hn
  have h0 : decide ((48 : Int) ≤ (n : Int)) = decide (48 ≤ n) := dec_le 48 n
  have h1 : decide ((n : Int) ≤ (57 : Int)) = decide (n ≤ 57) := dec_le n 57
  generalize decide (48 ≤ n) = p at h0 ⊢
  generalize decide (n ≤ 57) = q at h1 ⊢
  cases p <;> cases q <;> (go_enter Tryz.func248, Tryz.ntmps248; go_wp2; go_ret; exact ⟨rfl, rfl⟩)
set_option maxRecDepth 100000 in
set_option maxHeartbeats 2000000 in
theorem inType_any (c : UInt8) (w : World) :
    Calls Tryz.prog 197 #[.int .u8 (c.toNat : Int)] w fun e w' => e = .returned (.bool (inTyB c)) ∧ w = w' := by
  have k1 := isLetter_any c w
  have k2 := isDigit_any c w
  unfold inTyB
  have h0 : ((c.toNat : Int) == 45) = (c == 45) := (beq_nat c.toNat 45).trans (u8_beq c 45 (by decide)).symm
  have h1 : ((c.toNat : Int) == 46) = (c == 46) := (beq_nat c.toNat 46).trans (u8_beq c 46 (by decide)).symm
  generalize letB c = p at k1 ⊢
  generalize digB c = q at k2 ⊢
  generalize (c == 45) = r at h0 ⊢
  generalize (c == 46) = t at h1 ⊢
  cases p <;> cases q <;> cases r <;> cases t <;> (go_enter Tryz.func197, Tryz.ntmps197; go_wp2_with (first | (go_at_call 195; refine k1.mono ?_; rintro e w' ⟨rfl, rfl⟩) | (go_at_call 248; refine k2.mono ?_; rintro e w' ⟨rfl, rfl⟩)); go_ret; exact ⟨rfl, rfl⟩)
set_option maxRecDepth 100000 in
set_option maxHeartbeats 2000000 in
theorem Digit_any (c : UInt8) (w : World) :
    Calls Tryz.prog 294 #[.int .u8 (c.toNat : Int)] w fun e w' => e = .returned (.int .i64 (hexD c)) ∧ w = w' := by
  unfold hexD
  have hc := UInt8.toNat_lt c
  obtain ⟨n, hn⟩ : ∃ n, c.toNat = n := ⟨_, rfl⟩
  rw [hn] at hc ⊢
  clear hn
  by_cases a1 : 48 ≤ n ∧ n ≤ 57
  · rw [if_pos a1]
    have h0 : decide ((48 : Int) ≤ (n : Int)) = true := decide_eq_true (by omega)
    have h1 : decide ((n : Int) ≤ 57) = true := decide_eq_true (by omega)
    go_enter Tryz.func294, Tryz.ntmps294
    go_wp2
    go_ret
    exact ⟨rfl, rfl⟩
  · rw [if_neg a1]
    have h0 : decide ((48 : Int) ≤ (n : Int)) = decide (48 ≤ n) := dec_le 48 n
    have h1 : decide ((n : Int) ≤ 57) = decide (n ≤ 57) := dec_le n 57
    by_cases a2 : 97 ≤ n ∧ n ≤ 102
    · rw [if_pos a2]
      have h2 : decide ((n : Int) ≤ 57) = false := decide_eq_false (by omega)
      have h3 : decide ((48 : Int) ≤ (n : Int)) = true := decide_eq_true (by omega)
      have h4 : decide ((97 : Int) ≤ (n : Int)) = true := decide_eq_true (by omega)
      have h5 : decide ((n : Int) ≤ 102) = true := decide_eq_true (by omega)
      clear h0 h1
      go_enter Tryz.func294, Tryz.ntmps294
      go_wp2
      go_ret
      exact ⟨rfl, rfl⟩
    · rw [if_neg a2]
      by_cases a3 : 65 ≤ n ∧ n ≤ 70
      · rw [if_pos a3]
        have h2 : decide ((n : Int) ≤ 57) = false := decide_eq_false (by omega)
        have h3 : decide ((48 : Int) ≤ (n : Int)) = true := decide_eq_true (by omega)
        have h4 : decide ((97 : Int) ≤ (n : Int)) = false := decide_eq_false (by omega)
        have h5 : decide ((65 : Int) ≤ (n : Int)) = true := decide_eq_true (by omega)
        have h6 : decide ((n : Int) ≤ 70) = true := decide_eq_true (by omega)
        clear h0 h1
        go_enter Tryz.func294, Tryz.ntmps294
        go_wp2
        go_ret
        exact ⟨rfl, rfl⟩
      · rw [if_neg a3]
        have t1 : decide ((48 : Int) ≤ (n : Int)) = false ∨ decide ((48 : Int) ≤ (n : Int)) = true ∧ decide ((n : Int) ≤ 57) = false := by simp; omega
        have t2 : decide ((97 : Int) ≤ (n : Int)) = false ∨ decide ((97 : Int) ≤ (n : Int)) = true ∧ decide ((n : Int) ≤ 102) = false := by simp; omega
        have t3 : decide ((65 : Int) ≤ (n : Int)) = false ∨ decide ((65 : Int) ≤ (n : Int)) = true ∧ decide ((n : Int) ≤ 70) = false := by simp; omega
        clear h0 h1 a1 a2 a3
        rcases t1 with t1 | ⟨t1, t1'⟩ <;> rcases t2 with t2 | ⟨t2, t2'⟩ <;> rcases t3 with t3 | ⟨t3, t3'⟩ <;> (go_enter Tryz.func294, Tryz.ntmps294; go_wp2; go_ret; exact ⟨rfl, rfl⟩)
/-- Where a reader stands: its text, and how far it is read. -/
def RAt (w : World) (b : Nat) (s : List UInt8) (k : Nat) : Prop := w.heap[b]? = some (.cells #[.string ⟨s.toArray⟩, .int .i64 (k : Int)] 138 (0, 0))
theorem RAt.cells {w : World} {b k : Nat} {s : List UInt8} (h : RAt w b s k) : w.cell? ⟨b, 0, none⟩ = some (.string ⟨s.toArray⟩) ∧ w.cell? ⟨b, 1, none⟩ = some (.int .i64 (k : Int)) ∧ w.frozen? ⟨b, 1, none⟩ = false :=
  ⟨by rw [Lib.cell_of_heap h]; rfl, by rw [Lib.cell_of_heap h]; rfl, Lib.frozen_of_heap h 1⟩
theorem RAt.lt {w : World} {b k : Nat} {s : List UInt8} (h : RAt w b s k) : b < w.heap.size := (Array.getElem?_eq_some_iff.1 h).1
theorem RAt.below {w w' : World} {b k : Nat} {s : List UInt8} (h : RAt w b s k) (hb : Below w.heap.size w w') : RAt w' b s k := (hb.block b h.lt).trans h
theorem RAt.set {w : World} {b k : Nat} {s : List UInt8} (h : RAt w b s k) (j : Nat) : RAt (w.setCell ⟨b, 1, none⟩ (.int .i64 (j : Int))) b s j := by
  unfold RAt
  rw [heap_setCell_same w b 1 _ _ _ h]
  rfl
/-- All blocks but one stay as they were. -/
def Kept (b : Nat) (w w' : World) : Prop := w'.os = w.os ∧ w'.tape = w.tape ∧ w'.output = w.output ∧ w.heap.size ≤ w'.heap.size ∧ ∀ j, j < w.heap.size → j ≠ b → w'.heap[j]? = w.heap[j]?
theorem Kept.refl (b : Nat) (w : World) : Kept b w w := ⟨rfl, rfl, rfl, Nat.le_refl _, fun _ _ _ => rfl⟩
theorem Kept.trans {b : Nat} {x y z : World} (h : Kept b x y) (k : Kept b y z) : Kept b x z :=
  ⟨k.1.trans h.1, k.2.1.trans h.2.1, k.2.2.1.trans h.2.2.1, Nat.le_trans h.2.2.2.1 k.2.2.2.1, fun j hj hne => (k.2.2.2.2 j (Nat.lt_of_lt_of_le hj h.2.2.2.1) hne).trans (h.2.2.2.2 j hj hne)⟩
theorem Kept.of_below {b : Nat} {w w' : World} (h : Below w.heap.size w w') : Kept b w w' := ⟨h.os, h.tape, h.output, h.size, fun j hj _ => h.block j hj⟩
theorem Kept.set (b : Nat) (w : World) (i : Nat) (v : Value) : Kept b w (w.setCell ⟨b, i, none⟩ v) :=
  ⟨rfl, rfl, rfl, by simp, fun j _ hne => heap_setCell_other w ⟨b, i, none⟩ j v hne⟩
theorem Kept.below {b n : Nat} {w w' : World} (h : Kept b w w') (hn : n ≤ b) (hw : n ≤ w.heap.size) : Below n w w' :=
  ⟨h.1, h.2.1, h.2.2.1, h.2.2.2.1, fun j hj => h.2.2.2.2 j (by omega) (by omega)⟩
theorem Below.drewN {B : Nat} {a w : World} (h : Below B a w) (n : Nat) : Below B a (w.drewN n) := ⟨h.os, h.tape, h.output, h.size, h.block⟩
theorem RAt.drewN {w : World} {b k : Nat} {s : List UInt8} (h : RAt w b s k) (n : Nat) : RAt (w.drewN n) b s k := h
def headIs (r : List UInt8) (c : UInt8) : Bool := match r with
  | x :: _ => x == c
  | [] => false
theorem byte_at {s t : List UInt8} {k : Nat} {x : UInt8} (h : s.drop k = x :: t) (h' : k < (⟨s.toArray⟩ : ByteArray).size) : (⟨s.toArray⟩ : ByteArray)[k]'h' = x := by
  have hl : k < s.length := by rw [Lib.size_mk] at h'; exact h'
  rw [List.drop_eq_getElem_cons hl] at h
  exact (List.cons.inj h).1
theorem drop_lt {s t : List UInt8} {k : Nat} {x : UInt8} (h : s.drop k = x :: t) : k < s.length ∧ s.drop (k + 1) = t := by
  have hl : k < s.length := by
    rcases Nat.lt_or_ge k s.length with h' | h'
    · exact h'
    · rw [List.drop_of_length_le h'] at h; cases h
  rw [List.drop_eq_getElem_cons hl] at h
  exact ⟨hl, (List.cons.inj h).2⟩
set_option maxRecDepth 100000 in
set_option maxHeartbeats 2000000 in
theorem ended_any (b k : Nat) (s : List UInt8) (w : World) (h : RAt w b s k) :
    Calls Tryz.prog 200 #[.pointer (some ⟨b, 0, none⟩)] w fun e w' => e = .returned (.bool (decide (k = s.length))) ∧ ∃ m, w' = w.drewN m := by
  obtain ⟨q0, q1, q2⟩ := h.cells
  have hq : ((k : Int) == (s.length : Int)) = decide (k = s.length) := by rw [beq_nat]; rfl
  generalize decide (k = s.length) = p at hq ⊢
  clear h
  go_enter Tryz.func200, Tryz.ntmps200
  go_wp2
  go_quiet (fail)
  go_wp2
  go_ret
  exact ⟨rfl, _, rfl⟩
set_option maxRecDepth 100000 in
set_option maxHeartbeats 2000000 in
theorem is_any (b k : Nat) (s r : List UInt8) (c : UInt8) (w : World) (h : RAt w b s k) (hk : k ≤ s.length) (hr : s.drop k = r) :
    Calls Tryz.prog 199 #[.pointer (some ⟨b, 0, none⟩), .int .u8 (c.toNat : Int)] w fun e w' => e = .returned (.bool (headIs r c)) ∧ ∃ m, w' = w.drewN m := by
  obtain ⟨q0, q1, q2⟩ := h.cells
  have k1 := fun n => ended_any b k s (w.drewN n) (h.drewN n)
  clear h
  cases r with
  | nil =>
    have hkl : k = s.length := by have := congrArg List.length hr; simp at this; omega
    have e1 : decide (k = s.length) = true := decide_eq_true hkl
    rw [e1] at k1
    clear hr hkl e1
    show Calls _ _ _ _ fun e w' => e = .returned (.bool false) ∧ _
    go_enter Tryz.func199, Tryz.ntmps199
    go_wp2
    go_quiet (first | (go_at_call 200; exact Calls.quiet_of (k1 _)))
    go_wp2
    go_ret
    exact ⟨rfl, _, rfl⟩
  | cons x t =>
    obtain ⟨hl, _⟩ := drop_lt hr
    have e1 : decide (k = s.length) = false := decide_eq_false (by omega)
    rw [e1] at k1
    have hb := fun h' => byte_at hr h'
    have hxc : ((x.toNat : Int) == (c.toNat : Int)) = (x == c) := by
      rw [beq_nat, Bool.eq_iff_iff]
      simp only [beq_iff_eq]
      exact ⟨UInt8.toNat.inj, fun h => by rw [h]⟩
    show Calls _ _ _ _ fun e w' => e = .returned (.bool (x == c)) ∧ _
    generalize (x == c) = p at hxc ⊢
    clear hr e1
    go_enter Tryz.func199, Tryz.ntmps199
    go_wp2
    go_quiet (first | (go_at_call 200; exact Calls.quiet_of (k1 _)))
    go_wp2
    go_ret
    exact ⟨rfl, _, rfl⟩
end Go.Proofs.YtegigcneimjimaaGreatDoor
