/- The small functions of package prep: isBlank, goes, isRefused, Map, Fold: what each returns, for every rune; the world stays. -/
import Derived.Test.YtlbfmapbpbpipaaDoorBase
import Derived.WalkKit
import Derived.WalkLawsBesides
import Derived.WalkSpells
import Derived.Deep.QuietTactic
import Derived.BigQuiet
namespace Go.Proofs.YtlbfmapbpbpipaaDoor
open Go.RowKit




def isBlankB (r : Int) : Bool := decide ((9 ≤ r ∧ r ≤ 13) ∨ r = 0x85 ∨ r = 0xA0 ∨ r = 0x1680 ∨ (0x2000 ≤ r ∧ r ≤ 0x200A) ∨ r = 0x2028 ∨ r = 0x2029 ∨ r = 0x202F ∨ r = 0x205F ∨ r = 0x3000)
def goesB (r : Int) : Bool := decide ((0 ≤ r ∧ r < 32) ∨ (127 ≤ r ∧ r ≤ 0x9F) ∨ r = 0xAD ∨ r = 0x34F ∨ r = 0x1806 ∨ (0x180B ≤ r ∧ r ≤ 0x180E) ∨ (0x200B ≤ r ∧ r ≤ 0x200F) ∨ (0x202A ≤ r ∧ r ≤ 0x202E) ∨ (0x2060 ≤ r ∧ r ≤ 0x206F) ∨ (0xFE00 ≤ r ∧ r ≤ 0xFE0F) ∨ r = 0xFEFF ∨ (0xFFF9 ≤ r ∧ r ≤ 0xFFFC))
def isRefusedB (r : Int) : Bool := decide (r < 0 ∨ (0xD800 ≤ r ∧ r ≤ 0xF8FF) ∨ (0xFFFD ≤ r ∧ r ≤ 0xFFFF) ∨ 0xF0000 ≤ r)

set_option maxHeartbeats 400000 in
theorem isBlank_any (r : Int) (w : World) :
    Calls Tryd.prog 18 #[.int .i32 r] w fun e w' => e = .returned (.bool (isBlankB r)) ∧ w = w' := by
  go_enter Tryd.func18, Tryd.ntmps18
  go_wp2
  all_goals go_ret
  all_goals (refine ⟨ret_bool ?_, rfl⟩; unfold isBlankB; (try simp only [beq_iff_eq, beq_eq_false_iff_ne, ne_eq] at *); first | (exact (decide_eq_true (by omega)).symm) | (exact (decide_eq_false (by omega)).symm) | (rw [Bool.eq_iff_iff]; simp only [Bool.or_eq_true, Bool.and_eq_true, decide_eq_true_eq]; omega))

set_option maxHeartbeats 400000 in
theorem goes_any (r : Int) (w : World) :
    Calls Tryd.prog 19 #[.int .i32 r] w fun e w' => e = .returned (.bool (goesB r)) ∧ w = w' := by
  go_enter Tryd.func19, Tryd.ntmps19
  go_wp2
  all_goals go_ret
  all_goals (refine ⟨ret_bool ?_, rfl⟩; unfold goesB; (try simp only [beq_iff_eq, beq_eq_false_iff_ne, ne_eq] at *); first | (exact (decide_eq_true (by omega)).symm) | (exact (decide_eq_false (by omega)).symm) | (rw [Bool.eq_iff_iff]; simp only [Bool.or_eq_true, Bool.and_eq_true, decide_eq_true_eq]; omega))

set_option maxHeartbeats 400000 in
theorem isRefused_any (r : Int) (w : World) :
    Calls Tryd.prog 20 #[.int .i32 r] w fun e w' => e = .returned (.bool (isRefusedB r)) ∧ w = w' := by
  go_enter Tryd.func20, Tryd.ntmps20
  go_wp2
  all_goals go_ret
  all_goals (refine ⟨ret_bool ?_, rfl⟩; unfold isRefusedB; (try simp only [beq_iff_eq, beq_eq_false_iff_ne, ne_eq] at *); first | (exact (decide_eq_true (by omega)).symm) | (exact (decide_eq_false (by omega)).symm) | (rw [Bool.eq_iff_iff]; simp only [Bool.or_eq_true, Bool.and_eq_true, decide_eq_true_eq]; omega))

def mapR (r : Int) : Int := if isBlankB r then 32 else if goesB r then 0 else if isRefusedB r then 0 else r
def mapStays (r : Int) : Bool := isBlankB r || (!goesB r && !isRefusedB r)
def mapBad (r : Int) : Bool := !isBlankB r && (!goesB r && isRefusedB r)

set_option maxHeartbeats 400000 in
theorem Map_any (r : Int) (w : World) :
    Calls Tryd.prog 9 #[.int .i32 r] w fun e w' => e = .returned (.tuple #[.int .i32 (mapR r), .bool (mapStays r), .bool (mapBad r)]) ∧ w = w' := by
  have c1 := isBlank_any r w
  have c2 := goes_any r w
  have c3 := isRefused_any r w
  unfold mapR mapStays mapBad
  generalize isBlankB r = b1 at *
  generalize goesB r = b2 at *
  generalize isRefusedB r = b3 at *
  cases b1 <;> cases b2 <;> cases b3
  all_goals
    go_enter Tryd.func9, Tryd.ntmps9
    go_wp2_with (first | (go_at_call 18; refine c1.mono ?_; rintro e w' ⟨rfl, rfl⟩) | (go_at_call 19; refine c2.mono ?_; rintro e w' ⟨rfl, rfl⟩) | (go_at_call 20; refine c3.mono ?_; rintro e w' ⟨rfl, rfl⟩))
    go_ret3
    exact ⟨rfl, rfl⟩

def foldR (r : Int) : Int :=
  if (0x41 ≤ r ∧ r ≤ 0x5A) ∨ (0xC0 ≤ r ∧ r ≤ 0xDE ∧ r ≠ 0xD7) ∨ (0x391 ≤ r ∧ r ≤ 0x3A9 ∧ r ≠ 0x3A2) ∨ (0x410 ≤ r ∧ r ≤ 0x42F) then r + 32
  else if 0x400 ≤ r ∧ r ≤ 0x40F then r + 80
  else if r = 0x1E9E then 0xDF
  else if ((0x100 ≤ r ∧ r ≤ 0x137) ∨ (0x14A ≤ r ∧ r ≤ 0x177)) ∧ r % 2 = 0 then r + 1
  else r

set_option maxHeartbeats 1000000 in
theorem Fold_any (r : Int) (w : World) :
    Calls Tryd.prog 12 #[.int .i32 r] w fun e w' => e = .returned (.int .i32 (foldR r)) ∧ w = w' := by
  go_enter Tryd.func12, Tryd.ntmps12
  go_wp2
  all_goals go_ret
  all_goals (refine ⟨ret_int ?_, rfl⟩; (try simp only [beq_iff_eq, beq_eq_false_iff_ne, bne_iff_ne, bne_eq_false_iff_eq, ne_eq] at *); unfold foldR; repeat' split)
  all_goals omega
end Go.Proofs.YtlbfmapbpbpipaaDoor
