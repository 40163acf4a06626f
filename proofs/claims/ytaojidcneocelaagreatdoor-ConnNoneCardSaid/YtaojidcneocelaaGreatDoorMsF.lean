/- message.isResult, IsRequest, Reply. (Written by genmsf.py.) -/
import Derived.Test.YtaojidcneocelaaGreatDoorMsD
namespace Go.Proofs.YtaojidcneocelaaGreatDoor
open Go.RowKit Go.Lib

def isResL : List Int := [1, 5, 7, 9, 11, 13, 15, 24]
set_option maxRecDepth 100000 in
theorem isRes_any (op : Int) (w : World) : Calls Tryz.prog 90 #[.int .i64 op] w fun e w' => e = .returned (.bool (isResL.contains op)) ∧ Below w.heap.size w w' := by
  have a1 : (w.alloc (.cells #[.int .i64 1, .int .i64 5, .int .i64 7, .int .i64 9, .int .i64 11, .int .i64 13, .int .i64 15, .int .i64 24] 3)).heap[w.heap.size]? = some (.cells #[.int .i64 1, .int .i64 5, .int .i64 7, .int .i64 9, .int .i64 11, .int .i64 13, .int .i64 15, .int .i64 24] 3 (0, 0)) := alloc_at _ _ _ rfl
  have b1 : Below w.heap.size w (w.alloc (.cells #[.int .i64 1, .int .i64 5, .int .i64 7, .int .i64 9, .int .i64 11, .int .i64 13, .int .i64 15, .int .i64 24] 3)) := (Below.refl _ _).alloc (Nat.le_refl _) _
  have kc := isOp_any op w.heap.size [1, 5, 7, 9, 11, 13, 15, 24] (w.alloc (.cells #[.int .i64 1, .int .i64 5, .int .i64 7, .int .i64 9, .int .i64 11, .int .i64 13, .int .i64 15, .int .i64 24] 3)) (by simp) (fun j hj => by
    have h2 : j < 8 := hj
    have hcases : j = 0 ∨ j = 1 ∨ j = 2 ∨ j = 3 ∨ j = 4 ∨ j = 5 ∨ j = 6 ∨ j = 7 := by omega
    rcases hcases with rfl | rfl | rfl | rfl | rfl | rfl | rfl | rfl
    · exact (Lib.cell_of_heap a1 0).trans rfl
    · exact (Lib.cell_of_heap a1 1).trans rfl
    · exact (Lib.cell_of_heap a1 2).trans rfl
    · exact (Lib.cell_of_heap a1 3).trans rfl
    · exact (Lib.cell_of_heap a1 4).trans rfl
    · exact (Lib.cell_of_heap a1 5).trans rfl
    · exact (Lib.cell_of_heap a1 6).trans rfl
    · exact (Lib.cell_of_heap a1 7).trans rfl)
  obtain ⟨R, hR⟩ : ∃ R, ([1, 5, 7, 9, 11, 13, 15, 24] : List Int).contains op = R := ⟨_, rfl⟩
  rw [show isResL.contains op = R from hR]
  rw [hR] at kc
  clear hR a1
  go_enter Tryz.func90, Tryz.ntmps90
  go_wp2_with fail
  generalize w.alloc (.cells #[.int .i64 1, .int .i64 5, .int .i64 7, .int .i64 9, .int .i64 11, .int .i64 13, .int .i64 15, .int .i64 24] 3) = w1 at b1 kc ⊢
  refine Calls.mono (show Calls _ _ _ _ _ from kc) ?_
  rintro e w2 ⟨rfl, rfl⟩
  go_wp2_with fail
  go_ret
  exact ⟨rfl, b1⟩
def isReqL : List Int := [0, 2, 3, 6, 8, 10, 12, 14, 16, 23]
set_option maxRecDepth 100000 in
theorem isReq_any (op : Int) (w : World) : Calls Tryz.prog 31 #[.int .i64 op] w fun e w' => e = .returned (.bool (isReqL.contains op)) ∧ Below w.heap.size w w' := by
  have a1 : (w.alloc (.cells #[.int .i64 0, .int .i64 2, .int .i64 3, .int .i64 6, .int .i64 8, .int .i64 10, .int .i64 12, .int .i64 14, .int .i64 16, .int .i64 23] 3)).heap[w.heap.size]? = some (.cells #[.int .i64 0, .int .i64 2, .int .i64 3, .int .i64 6, .int .i64 8, .int .i64 10, .int .i64 12, .int .i64 14, .int .i64 16, .int .i64 23] 3 (0, 0)) := alloc_at _ _ _ rfl
  have b1 : Below w.heap.size w (w.alloc (.cells #[.int .i64 0, .int .i64 2, .int .i64 3, .int .i64 6, .int .i64 8, .int .i64 10, .int .i64 12, .int .i64 14, .int .i64 16, .int .i64 23] 3)) := (Below.refl _ _).alloc (Nat.le_refl _) _
  have kc := isOp_any op w.heap.size [0, 2, 3, 6, 8, 10, 12, 14, 16, 23] (w.alloc (.cells #[.int .i64 0, .int .i64 2, .int .i64 3, .int .i64 6, .int .i64 8, .int .i64 10, .int .i64 12, .int .i64 14, .int .i64 16, .int .i64 23] 3)) (by simp) (fun j hj => by
    have h2 : j < 10 := hj
    have hcases : j = 0 ∨ j = 1 ∨ j = 2 ∨ j = 3 ∨ j = 4 ∨ j = 5 ∨ j = 6 ∨ j = 7 ∨ j = 8 ∨ j = 9 := by omega
    rcases hcases with rfl | rfl | rfl | rfl | rfl | rfl | rfl | rfl | rfl | rfl
    · exact (Lib.cell_of_heap a1 0).trans rfl
    · exact (Lib.cell_of_heap a1 1).trans rfl
    · exact (Lib.cell_of_heap a1 2).trans rfl
    · exact (Lib.cell_of_heap a1 3).trans rfl
    · exact (Lib.cell_of_heap a1 4).trans rfl
    · exact (Lib.cell_of_heap a1 5).trans rfl
    · exact (Lib.cell_of_heap a1 6).trans rfl
    · exact (Lib.cell_of_heap a1 7).trans rfl
    · exact (Lib.cell_of_heap a1 8).trans rfl
    · exact (Lib.cell_of_heap a1 9).trans rfl)
  obtain ⟨R, hR⟩ : ∃ R, ([0, 2, 3, 6, 8, 10, 12, 14, 16, 23] : List Int).contains op = R := ⟨_, rfl⟩
  rw [show isReqL.contains op = R from hR]
  rw [hR] at kc
  clear hR a1
  go_enter Tryz.func31, Tryz.ntmps31
  go_wp2_with fail
  generalize w.alloc (.cells #[.int .i64 0, .int .i64 2, .int .i64 3, .int .i64 6, .int .i64 8, .int .i64 10, .int .i64 12, .int .i64 14, .int .i64 16, .int .i64 23] 3) = w1 at b1 kc ⊢
  refine Calls.mono (show Calls _ _ _ _ _ from kc) ?_
  rintro e w2 ⟨rfl, rfl⟩
  go_wp2_with fail
  go_ret
  exact ⟨rfl, b1⟩

/-- The operation of a request's response. -/
def replyOf (op : Int) : Int := if !isReqL.contains op || op == 2 || op == 16 then -1 else if op == 3 then 5 else op + 1
set_option maxRecDepth 100000 in
theorem Reply_any (op : Int) (w : World) : Calls Tryz.prog 19 #[.int .i64 op] w fun e w' => e = .returned (.int .i64 (replyOf op)) ∧ Below w.heap.size w w' := by
  have kc := isReq_any op w
  rcases Bool.eq_false_or_eq_true (isReqL.contains op) with hc | hc
  · have hm : op ∈ isReqL := by simpa using hc
    rw [hc] at kc
    simp only [isReqL, List.mem_cons, List.not_mem_nil, or_false] at hm
    rcases hm with rfl | rfl | rfl | rfl | rfl | rfl | rfl | rfl | rfl | rfl
    all_goals
      go_enter Tryz.func19, Tryz.ntmps19
      go_wp2_with fail
      refine Calls.mono (show Calls _ _ _ _ _ from kc) ?_
      rintro e w2 ⟨rfl, b1⟩
      go_wp2_with fail
      go_ret
      exact ⟨rfl, b1⟩
  · have hr : replyOf op = -1 := by unfold replyOf; rw [hc]; rfl
    rw [hr]
    rw [hc] at kc
    clear hc hr
    go_enter Tryz.func19, Tryz.ntmps19
    go_wp2_with fail
    refine Calls.mono (show Calls _ _ _ _ _ from kc) ?_
    rintro e w2 ⟨rfl, b1⟩
    go_wp2_with fail
    go_ret
    exact ⟨rfl, b1⟩
end Go.Proofs.YtaojidcneocelaaGreatDoor
