/- dn: the small tests of a byte. -/
import Derived.Test.YtehpdodjncabkaaDoorBase
import Derived.Test.YtehpdodjncabkaaDoorPlainDn
import Derived.Deep.QuietTactic
import Derived.BigQuiet
namespace Go.Proofs.YtehpdodjncabkaaDoor
open Go.RowKit Go.Lib

theorem dec_le (a n : Nat) : decide ((a : Int) ≤ (n : Int)) = decide (a ≤ n) := decide_eq_decide.2 (by omega)
theorem beq_nat (n a : Nat) : (((n : Int) == (a : Int))) = (n == a) := by rw [Bool.eq_iff_iff]; simp; omega
theorem u8_beq (c : UInt8) (a : Nat) (h : a < 256) : (c == UInt8.ofNat a) = (c.toNat == a) := by
  rw [Bool.eq_iff_iff]
  simp only [beq_iff_eq]
  constructor
  · rintro rfl; rw [UInt8.toNat_ofNat']; omega
  · intro e; rw [← e]; simp
set_option maxRecDepth 100000 in
set_option maxHeartbeats 2000000 in
theorem isLetter_any (c : UInt8) (w : World) :
    Calls Tryd.prog 70 #[.int .u8 (c.toNat : Int)] w fun e w' => e = .returned (.bool (letB c)) ∧ w = w' := by
  unfold letB
  obtain ⟨n, hn⟩ : ∃ n, c.toNat = n := ⟨_, rfl⟩
  rw [hn]
  clear hn
  have h0 : decide ((97 : Int) ≤ (n : Int)) = decide (97 ≤ n) := dec_le 97 n
  have h1 : decide ((n : Int) ≤ (122 : Int)) = decide (n ≤ 122) := dec_le n 122
  have h2 : decide ((65 : Int) ≤ (n : Int)) = decide (65 ≤ n) := dec_le 65 n
  have h3 : decide ((n : Int) ≤ (90 : Int)) = decide (n ≤ 90) := dec_le n 90
  generalize decide (97 ≤ n) = p at h0 ⊢
  generalize decide (n ≤ 122) = q at h1 ⊢
  generalize decide (65 ≤ n) = r at h2 ⊢
  generalize decide (n ≤ 90) = t at h3 ⊢
  cases p <;> cases q <;> cases r <;> cases t <;> (go_enter Tryd.func70, Tryd.ntmps70; go_wp2; go_ret; exact ⟨rfl, rfl⟩)
set_option maxRecDepth 100000 in
set_option maxHeartbeats 2000000 in
theorem isDigit_any (c : UInt8) (w : World) :
    Calls Tryd.prog 90 #[.int .u8 (c.toNat : Int)] w fun e w' => e = .returned (.bool (digB c)) ∧ w = w' := by
  unfold digB
  obtain ⟨n, hn⟩ : ∃ n, c.toNat = n := ⟨_, rfl⟩
  rw [hn]
  clear hn
  have h0 : decide ((48 : Int) ≤ (n : Int)) = decide (48 ≤ n) := dec_le 48 n
  have h1 : decide ((n : Int) ≤ (57 : Int)) = decide (n ≤ 57) := dec_le n 57
  generalize decide (48 ≤ n) = p at h0 ⊢
  generalize decide (n ≤ 57) = q at h1 ⊢
  cases p <;> cases q <;> (go_enter Tryd.func90, Tryd.ntmps90; go_wp2; go_ret; exact ⟨rfl, rfl⟩)
set_option maxRecDepth 100000 in
set_option maxHeartbeats 2000000 in
theorem inType_any (c : UInt8) (w : World) :
    Calls Tryd.prog 72 #[.int .u8 (c.toNat : Int)] w fun e w' => e = .returned (.bool (inTyB c)) ∧ w = w' := by
  have k1 := isLetter_any c w
  have k2 := isDigit_any c w
  unfold inTyB
  have h0 : ((c.toNat : Int) == 45) = (c == 45) := (beq_nat c.toNat 45).trans (u8_beq c 45 (by decide)).symm
  have h1 : ((c.toNat : Int) == 46) = (c == 46) := (beq_nat c.toNat 46).trans (u8_beq c 46 (by decide)).symm
  generalize letB c = p at k1 ⊢
  generalize digB c = q at k2 ⊢
  generalize (c == 45) = r at h0 ⊢
  generalize (c == 46) = t at h1 ⊢
  cases p <;> cases q <;> cases r <;> cases t <;> (go_enter Tryd.func72, Tryd.ntmps72; go_wp2_with (first | (go_at_call 70; refine k1.mono ?_; rintro e w' ⟨rfl, rfl⟩) | (go_at_call 90; refine k2.mono ?_; rintro e w' ⟨rfl, rfl⟩)); go_ret; exact ⟨rfl, rfl⟩)
end Go.Proofs.YtehpdodjncabkaaDoor
