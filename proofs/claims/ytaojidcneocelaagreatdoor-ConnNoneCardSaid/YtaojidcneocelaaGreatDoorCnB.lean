/- conn: small functions; what each tells of a nil connection. (Written by gencnb.py.) -/
import Derived.Test.YtaojidcneocelaaGreatDoorCnA
namespace Go.Proofs.YtaojidcneocelaaGreatDoor
open Go.RowKit Go.Lib

/-- A connection's cells. -/
def connR (inn : List UInt8) (waits ids cur : Value) (ticks : Int) : Array Value := #[.string ⟨inn.toArray⟩, waits, ids, cur, .pointer none, .slice none 0 0, .string ⟨#[]⟩, .int .i64 ticks, .bool false]
theorem conn_cells {C : Nat} {inn : List UInt8} {waits ids cur : Value} {ticks : Int} {W : World} (h : W.heap[C]? = some (.cells (connR inn waits ids cur ticks) 49 (0, 0))) :
    W.cell? ⟨C, 0, none⟩ = some (.string ⟨inn.toArray⟩) ∧ W.cell? ⟨C, 1, none⟩ = some waits ∧ W.cell? ⟨C, 2, none⟩ = some ids ∧ W.cell? ⟨C, 3, none⟩ = some cur ∧ W.cell? ⟨C, 7, none⟩ = some (.int .i64 ticks) ∧ W.cell? ⟨C, 8, none⟩ = some (.bool false) :=
  ⟨(Lib.cell_of_heap h 0).trans rfl, (Lib.cell_of_heap h 1).trans rfl, (Lib.cell_of_heap h 2).trans rfl, (Lib.cell_of_heap h 3).trans rfl, (Lib.cell_of_heap h 7).trans rfl, (Lib.cell_of_heap h 8).trans rfl⟩
theorem New_any (w : World) : Calls Tryz.prog 24 #[] w fun e w' => e = .returned (.pointer (some ⟨w.heap.size, 0, none⟩)) ∧ w'.heap[w.heap.size]? = some (.cells (connR [] (.slice none 0 0) (.map none) (.pointer none) 0) 49 (0, 0)) ∧ Below w.heap.size w w' := by
  have b1 : Below w.heap.size w (w.alloc (.cells #[.string ⟨#[]⟩, .slice none 0 0, .map none, .pointer none, .pointer none, .slice none 0 0, .string ⟨#[]⟩, .int .i64 0, .bool false] 49)) := (Below.refl _ _).alloc (Nat.le_refl _) _
  have t1 : (w.alloc (.cells #[.string ⟨#[]⟩, .slice none 0 0, .map none, .pointer none, .pointer none, .slice none 0 0, .string ⟨#[]⟩, .int .i64 0, .bool false] 49)).heap[w.heap.size]? = some (.cells (connR [] (.slice none 0 0) (.map none) (.pointer none) 0) 49 (0, 0)) := alloc_at _ _ _ rfl
  have T1 := Lib.hid t1
  clear t1
  go_enter Tryz.func24, Tryz.ntmps24
  go_wp2_with fail
  go_ret
  exact ⟨rfl, T1.out, b1⟩
theorem cFeed_nil (b : ByteArray) (w : World) : Calls Tryz.prog 4 #[.pointer none, .string b] w fun e w' => e = .returned (.tuple #[]) ∧ w' = w := by
  go_enter Tryz.func4, Tryz.ntmps4
  go_wp2_with fail
  first
    | refine bodyPost_ret (results_none rfl _ _ _) rfl ?_
    | refine bodyPost_end (results_none rfl _ _ _) rfl ?_
  exact ⟨rfl, rfl⟩
theorem cBind_nil (b : ByteArray) (w : World) : Calls Tryz.prog 5 #[.pointer none, .string b] w fun e w' => e = .returned (.tuple #[]) ∧ w' = w := by
  go_enter Tryz.func5, Tryz.ntmps5
  go_wp2_with fail
  first
    | refine bodyPost_ret (results_none rfl _ _ _) rfl ?_
    | refine bodyPost_end (results_none rfl _ _ _) rfl ?_
  exact ⟨rfl, rfl⟩
theorem cDone_nil (w : World) : Calls Tryz.prog 6 #[.pointer none, .slice none 0 0] w fun e w' => e = .returned (.tuple #[]) ∧ w' = w := by
  go_enter Tryz.func6, Tryz.ntmps6
  go_wp2_with fail
  first
    | refine bodyPost_ret (results_none rfl _ _ _) rfl ?_
    | refine bodyPost_end (results_none rfl _ _ _) rfl ?_
  exact ⟨rfl, rfl⟩
theorem cIdle_nil (w : World) : Calls Tryz.prog 7 #[.pointer none, .int .i64 500] w fun e w' => e = .returned (.tuple #[]) ∧ w' = w := by
  go_enter Tryz.func7, Tryz.ntmps7
  go_wp2_with fail
  first
    | refine bodyPost_ret (results_none rfl _ _ _) rfl ?_
    | refine bodyPost_end (results_none rfl _ _ _) rfl ?_
  exact ⟨rfl, rfl⟩
theorem cClosed_nil (w : World) : Calls Tryz.prog 10 #[.pointer none] w fun e w' => e = .returned (.bool true) ∧ w' = w := by
  go_enter Tryz.func10, Tryz.ntmps10
  go_wp2_with fail
  go_ret
  exact ⟨rfl, rfl⟩
theorem cTake_nil (w : World) : Calls Tryz.prog 11 #[.pointer none] w fun e w' => e = .returned (.string ⟨#[]⟩) ∧ w' = w := by
  go_enter Tryz.func11, Tryz.ntmps11
  go_wp2_with fail
  go_ret
  exact ⟨rfl, rfl⟩
theorem cWho_nil (w : World) : Calls Tryz.prog 12 #[.pointer none] w fun e w' => e = .returned (.string ⟨#[]⟩) ∧ w' = w := by
  go_enter Tryz.func12, Tryz.ntmps12
  go_wp2_with fail
  go_ret
  exact ⟨rfl, rfl⟩
theorem cWaiting_nil (w : World) : Calls Tryz.prog 13 #[.pointer none] w fun e w' => e = .returned (.slice none 0 0) ∧ w' = w := by
  go_enter Tryz.func13, Tryz.ntmps13
  go_wp2_with fail
  go_ret
  exact ⟨rfl, rfl⟩
theorem cCurrent_nil (w : World) : Calls Tryz.prog 14 #[.pointer none] w fun e w' => e = .returned (.int .i64 0) ∧ w' = w := by
  go_enter Tryz.func14, Tryz.ntmps14
  go_wp2_with fail
  go_ret
  exact ⟨rfl, rfl⟩
set_option maxRecDepth 100000 in
theorem cNext_nil (w : World) : Calls Tryz.prog 8 #[.pointer none] w fun e w' => e = .returned (.tuple #[.agg #[.int .i64 0, .int .i64 0, .string ⟨#[]⟩, .int .i64 0, .bool false, .string ⟨#[]⟩, .int .i64 0, .int .i64 0, .int .i64 0, .int .i64 0, .bool false, .slice none 0 0, .slice none 0 0, .slice none 0 0, .slice none 0 0, .string ⟨#[]⟩, .string ⟨#[]⟩, .bool false, .bool false, .string ⟨#[]⟩, .string ⟨#[]⟩, .string ⟨#[]⟩, .bool false, .int .i64 0, .int .i64 0, .string ⟨#[]⟩, .string ⟨#[]⟩, .slice none 0 0], .bool false]) ∧ Below w.heap.size w w' := by
  obtain ⟨D, hD⟩ : ∃ D : Array Value, #[.int .i64 0, .int .i64 0, .string ⟨#[]⟩, .int .i64 0, .bool false, .string ⟨#[]⟩, .int .i64 0, .int .i64 0, .int .i64 0, .int .i64 0, .bool false, .slice none 0 0, .slice none 0 0, .slice none 0 0, .slice none 0 0, .string ⟨#[]⟩, .string ⟨#[]⟩, .bool false, .bool false, .string ⟨#[]⟩, .string ⟨#[]⟩, .string ⟨#[]⟩, .bool false, .int .i64 0, .int .i64 0, .string ⟨#[]⟩, .string ⟨#[]⟩, .slice none 0 0] = D := ⟨_, rfl⟩
  have hD1 : D.all (·.oneCell') = true := by rw [← hD]; simp [Value.oneCell']
  have hD2 : D.size = 28 := by rw [← hD]; rfl
  have x3 : (w.alloc (.cells #[.int .i64 0, .int .i64 0, .string ⟨#[]⟩, .int .i64 0, .bool false, .string ⟨#[]⟩, .int .i64 0, .int .i64 0, .int .i64 0, .int .i64 0, .bool false, .slice none 0 0, .slice none 0 0, .slice none 0 0, .slice none 0 0, .string ⟨#[]⟩, .string ⟨#[]⟩, .bool false, .bool false, .string ⟨#[]⟩, .string ⟨#[]⟩, .string ⟨#[]⟩, .bool false, .int .i64 0, .int .i64 0, .string ⟨#[]⟩, .string ⟨#[]⟩, .slice none 0 0] 32)).heap[w.heap.size]? = some (.cells #[.int .i64 0, .int .i64 0, .string ⟨#[]⟩, .int .i64 0, .bool false, .string ⟨#[]⟩, .int .i64 0, .int .i64 0, .int .i64 0, .int .i64 0, .bool false, .slice none 0 0, .slice none 0 0, .slice none 0 0, .slice none 0 0, .string ⟨#[]⟩, .string ⟨#[]⟩, .bool false, .bool false, .string ⟨#[]⟩, .string ⟨#[]⟩, .string ⟨#[]⟩, .bool false, .int .i64 0, .int .i64 0, .string ⟨#[]⟩, .string ⟨#[]⟩, .slice none 0 0] 32 (0, 0)) := alloc_at _ _ _ rfl
  have b3 : Below w.heap.size w ((w.alloc (.cells #[.int .i64 0, .int .i64 0, .string ⟨#[]⟩, .int .i64 0, .bool false, .string ⟨#[]⟩, .int .i64 0, .int .i64 0, .int .i64 0, .int .i64 0, .bool false, .slice none 0 0, .slice none 0 0, .slice none 0 0, .slice none 0 0, .string ⟨#[]⟩, .string ⟨#[]⟩, .bool false, .bool false, .string ⟨#[]⟩, .string ⟨#[]⟩, .string ⟨#[]⟩, .bool false, .int .i64 0, .int .i64 0, .string ⟨#[]⟩, .string ⟨#[]⟩, .slice none 0 0] 32)).setRow w.heap.size D) := below_row ((Below.refl _ _).alloc (Nat.le_refl _) _) (Nat.le_refl _) D
  have e3 := setRow_heap (w.alloc (.cells #[.int .i64 0, .int .i64 0, .string ⟨#[]⟩, .int .i64 0, .bool false, .string ⟨#[]⟩, .int .i64 0, .int .i64 0, .int .i64 0, .int .i64 0, .bool false, .slice none 0 0, .slice none 0 0, .slice none 0 0, .slice none 0 0, .string ⟨#[]⟩, .string ⟨#[]⟩, .bool false, .bool false, .string ⟨#[]⟩, .string ⟨#[]⟩, .string ⟨#[]⟩, .bool false, .int .i64 0, .int .i64 0, .string ⟨#[]⟩, .string ⟨#[]⟩, .slice none 0 0] 32)) w.heap.size _ D _ _ x3
  have X3 := Lib.hid x3
  have E3 := Lib.hid e3
  have B3 := Lib.hid b3
  have HD := Lib.hid hD
  have HD1 := Lib.hid hD1
  have HD2 := Lib.hid hD2
  clear x3 e3 b3 hD hD1 hD2
  go_enter Tryz.func8, Tryz.ntmps8
  go_wp2_with fail
  refine wp_loop_rounds 1 ?_
  rw [rounds_succ]
  go_wp2_with (refine wpList_storeRow rfl 32 (.tmp 2) (.tmp 44) rfl w.heap.size 32 #[.int .i64 0, .int .i64 0, .string ⟨#[]⟩, .int .i64 0, .bool false, .string ⟨#[]⟩, .int .i64 0, .int .i64 0, .int .i64 0, .int .i64 0, .bool false, .slice none 0 0, .slice none 0 0, .slice none 0 0, .slice none 0 0, .string ⟨#[]⟩, .string ⟨#[]⟩, .bool false, .bool false, .string ⟨#[]⟩, .string ⟨#[]⟩, .string ⟨#[]⟩, .bool false, .int .i64 0, .int .i64 0, .string ⟨#[]⟩, .string ⟨#[]⟩, .slice none 0 0] D (by rfl) (by show Act.eval _ (.tmp 44) = .agg D; rw [← HD.out]; rfl) X3.out (by rw [HD2.out]; rfl) (by rw [HD2.out]; rfl) HD1.out ?_; generalize ((w.alloc (.cells #[.int .i64 0, .int .i64 0, .string ⟨#[]⟩, .int .i64 0, .bool false, .string ⟨#[]⟩, .int .i64 0, .int .i64 0, .int .i64 0, .int .i64 0, .bool false, .slice none 0 0, .slice none 0 0, .slice none 0 0, .slice none 0 0, .string ⟨#[]⟩, .string ⟨#[]⟩, .bool false, .bool false, .string ⟨#[]⟩, .string ⟨#[]⟩, .string ⟨#[]⟩, .bool false, .int .i64 0, .int .i64 0, .string ⟨#[]⟩, .string ⟨#[]⟩, .slice none 0 0] 32)).setRow w.heap.size D) = w4 at E3 B3 ⊢; clear X3)
  have hr := run_loadVar_row (P := Tryz.prog) w4 w.heap.size 32 32 D (0, 0) _ E3.out (show Tryz.prog.underlying 32 = _ from Tryz.underlying32) (by rfl) (by rw [HD2.out]; rfl)
  refine bodyPost_ret (v := .tuple #[.agg D, .bool false]) ?_ rfl ⟨by rw [HD.out], B3.out⟩
  simp [results, Tryz.f8]
  show ((Sem.run Tryz.prog (loadVar 32 ⟨w.heap.size, 0, none⟩) w4).andThen fun a w' => Result.ok (Value.tuple #[a, .bool false]) w') = _
  rw [hr]
  simp
set_option maxRecDepth 100000 in
theorem isCancel_del (w : World) : Calls Tryz.prog 22 #[.agg (msgD 1 10 [100, 99, 61, 122])] w fun e w' => e = .returned (.bool false) ∧ Below w.heap.size w w' := by
  obtain ⟨D, hD⟩ : ∃ D, msgD 1 10 [100, 99, 61, 122] = D := ⟨_, rfl⟩
  have b1 : Below w.heap.size w (w.alloc (.cells D 32)) := (Below.refl _ _).alloc (Nat.le_refl _) _
  have t1 : (w.alloc (.cells D 32)).heap[w.heap.size]? = some (.cells D 32 (0, 0)) := alloc_at _ _ _ rfl
  have q1 : (w.alloc (.cells D 32)).cell? ⟨w.heap.size, 1, none⟩ = some (.int .i64 10) := (Lib.cell_of_heap t1 1).trans (by rw [← hD]; rfl)
  rw [hD]
  clear hD t1
  go_enter Tryz.func22, Tryz.ntmps22
  go_upto_region 1 with fail
  generalize w.alloc (.cells D 32) = w1 at b1 q1 ⊢
  go_wp2_with fail
  go_ret
  exact ⟨rfl, b1⟩
theorem Frame_two (b0 b1 : UInt8) (r : List UInt8) (h0 : b0.toNat % 32 ≤ 30) (h1 : b1.toNat < 128) (w : World) :
    Calls Tryz.prog 29 #[.string ⟨(b0 :: b1 :: r).toArray⟩] w fun e w' => e = .returned (.tuple #[.int .i64 (2 + (b1.toNat : Int)), .int .i64 0]) ∧ ∃ m, w' = w.drewN m := by
  have kh := head_short b0 b1 r h0 h1 w
  obtain ⟨B, hB⟩ : ∃ B : ByteArray, ⟨(b0 :: b1 :: r).toArray⟩ = B := ⟨_, rfl⟩
  rw [hB] at kh ⊢
  have hw : IntKind.i64.wrap (2 + (b1.toNat : Int)) = 2 + (b1.toNat : Int) := by rw [IntKind.wrap_i64]; omega
  clear hB
  go_enter Tryz.func29, Tryz.ntmps29
  go_wp2_with fail
  refine Calls.mono (show Calls _ _ _ _ _ from kh) ?_
  rintro e w2 ⟨rfl, m, rfl⟩
  go_wp2_with fail
  refine bodyPost_ret (v := .tuple #[.int .i64 (2 + (b1.toNat : Int)), .int .i64 0]) ?_ rfl ⟨rfl, m, rfl⟩
  simp [results, Tryz.f29]
theorem head_none (w : World) : Calls Tryz.prog 44 #[.string ⟨#[]⟩] w fun e w' => e = .returned (.tuple #[.int .i64 0, .int .i64 0, .int .i64 20]) ∧ ∃ m, w' = w.drewN m := by
  go_enter Tryz.func44, Tryz.ntmps44
  go_wp2_with fail
  refine bodyPost_ret (v := .tuple #[.int .i64 0, .int .i64 0, .int .i64 20]) ?_ rfl ⟨rfl, 0, rfl⟩
  simp [results, Tryz.f44]
theorem Frame_none (w : World) : Calls Tryz.prog 29 #[.string ⟨#[]⟩] w fun e w' => e = .returned (.tuple #[.int .i64 0, .int .i64 20]) ∧ ∃ m, w' = w.drewN m := by
  have kh := head_none w
  go_enter Tryz.func29, Tryz.ntmps29
  go_wp2_with fail
  refine Calls.mono (show Calls _ _ _ _ _ from kh) ?_
  rintro e w2 ⟨rfl, m, rfl⟩
  go_wp2_with fail
  refine bodyPost_ret (v := .tuple #[.int .i64 0, .int .i64 20]) ?_ rfl ⟨rfl, m, rfl⟩
  simp [results, Tryz.f29]
end Go.Proofs.YtaojidcneocelaaGreatDoor
