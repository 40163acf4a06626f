/- The small functions of package prep: isBlank, goes, isRefused, Map, Fold: what each returns, for every rune; the world stays. -/
import Derived.Test.YtlbfmapbpbpipaaDoorBase
import Derived.Test.YtlbfmapbpbpipaaDoorPlainA
import Derived.WalkKit
import Derived.WalkLawsBesides
import Derived.WalkSpells
import Derived.Deep.QuietTactic
import Derived.BigQuiet
namespace Go.Proofs.YtlbfmapbpbpipaaDoor
open Go.RowKit




set_option maxHeartbeats 400000 in
theorem isBlank_any (r : Int) (w : World) :
    Calls Tryd.prog 18 #[.int .i32 r] w fun e w' => e = .returned (.bool (isBlankB r)) ∧ w = w' := by
  go_enter Tryd.func18, Tryd.ntmps18
  go_wp2
  all_goals go_ret
  all_goals (refine ⟨ret_bool ?_, rfl⟩; unfold isBlankB; (try simp only [beq_iff_eq, beq_eq_false_iff_ne, ne_eq] at *); first | (exact (decide_eq_true (by omega)).symm) | (exact (decide_eq_false (by omega)).symm) | (rw [Bool.eq_iff_iff]; simp only [Bool.or_eq_true, decide_eq_true_eq]; omega))

set_option maxHeartbeats 400000 in
theorem goes_any (r : Int) (w : World) :
    Calls Tryd.prog 19 #[.int .i32 r] w fun e w' => e = .returned (.bool (goesB r)) ∧ w = w' := by
  go_enter Tryd.func19, Tryd.ntmps19
  go_wp2
  all_goals go_ret
  all_goals (refine ⟨ret_bool ?_, rfl⟩; unfold goesB; (try simp only [beq_iff_eq, beq_eq_false_iff_ne, ne_eq] at *); first | (exact (decide_eq_true (by omega)).symm) | (exact (decide_eq_false (by omega)).symm) | (rw [Bool.eq_iff_iff]; simp only [Bool.or_eq_true, decide_eq_true_eq]; omega))

set_option maxHeartbeats 400000 in
theorem isRefused_any (r : Int) (w : World) :
    Calls Tryd.prog 20 #[.int .i32 r] w fun e w' => e = .returned (.bool (isRefusedB r)) ∧ w = w' := by
  go_enter Tryd.func20, Tryd.ntmps20
  go_wp2
  all_goals go_ret
  all_goals (refine ⟨ret_bool ?_, rfl⟩; unfold isRefusedB; (try simp only [beq_iff_eq, beq_eq_false_iff_ne, ne_eq] at *); first | (exact (decide_eq_true (by omega)).symm) | (exact (decide_eq_false (by omega)).symm) | (rw [Bool.eq_iff_iff]; simp only [Bool.or_eq_true, decide_eq_true_eq]; omega))

set_option maxHeartbeats 400000 in
theorem Map_any (r : Int) (w : World) :
    Calls Tryd.prog 9 #[.int .i32 r] w fun e w' => e = .returned (.tuple #[.int .i32 (mapR r), .bool (mapStays r), .bool (mapBad r)]) ∧ w = w' := by
  have c1 := isBlank_any r w
  have c2 := goes_any r w
  have c3 := isRefused_any r w
  unfold mapR mapStays mapBad
  generalize isBlankB r = b1 at *
  generalize goesB r = b2 at *
  generalize isRefusedB r = b3 at *
  cases b1 <;> cases b2 <;> cases b3
  all_goals
    go_enter Tryd.func9, Tryd.ntmps9
    go_wp2_with (first | (go_at_call 18; refine c1.mono ?_; rintro e w' ⟨rfl, rfl⟩) | (go_at_call 19; refine c2.mono ?_; rintro e w' ⟨rfl, rfl⟩) | (go_at_call 20; refine c3.mono ?_; rintro e w' ⟨rfl, rfl⟩))
    go_ret3
    exact ⟨rfl, rfl⟩

set_option maxHeartbeats 1000000 in
theorem Fold_any (r : Int) (w : World) :
    Calls Tryd.prog 12 #[.int .i32 r] w fun e w' => e = .returned (.int .i32 (foldR r)) ∧ w = w' := by
  go_enter Tryd.func12, Tryd.ntmps12
  go_wp2
  all_goals go_ret
  all_goals (refine ⟨ret_int ?_, rfl⟩; (try simp only [beq_iff_eq, beq_eq_false_iff_ne, bne_iff_ne, bne_eq_false_iff_eq, ne_eq] at *); unfold foldR; repeat' split)
  all_goals omega
end Go.Proofs.YtlbfmapbpbpipaaDoor
