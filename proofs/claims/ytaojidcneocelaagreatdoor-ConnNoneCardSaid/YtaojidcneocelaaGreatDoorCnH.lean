/- conn: Next of nothing and of one message that waits. (Written by gencnh.py.) -/
import Derived.Test.YtaojidcneocelaaGreatDoorCnG
namespace Go.Proofs.YtaojidcneocelaaGreatDoor
open Go.RowKit Go.Lib

set_option maxRecDepth 100000 in
theorem Next_none (C : Nat) (inn : List UInt8) (ids : Value) (ticks : Int) (w : World) (hC : w.heap[C]? = some (.cells (connR inn (.slice none 0 0) ids (.pointer none) ticks) 49 (0, 0))) :
    Calls Tryz.prog 8 #[.pointer (some ⟨C, 0, none⟩)] w fun e w' => e = .returned (.tuple #[.agg #[.int .i64 0, .int .i64 0, .string ⟨#[]⟩, .int .i64 0, .bool false, .string ⟨#[]⟩, .int .i64 0, .int .i64 0, .int .i64 0, .int .i64 0, .bool false, .slice none 0 0, .slice none 0 0, .slice none 0 0, .slice none 0 0, .string ⟨#[]⟩, .string ⟨#[]⟩, .bool false, .bool false, .string ⟨#[]⟩, .string ⟨#[]⟩, .string ⟨#[]⟩, .bool false, .int .i64 0, .int .i64 0, .string ⟨#[]⟩, .string ⟨#[]⟩, .slice none 0 0], .bool false]) ∧ Below w.heap.size w w' := by
  obtain ⟨D, hD⟩ : ∃ D : Array Value, #[.int .i64 0, .int .i64 0, .string ⟨#[]⟩, .int .i64 0, .bool false, .string ⟨#[]⟩, .int .i64 0, .int .i64 0, .int .i64 0, .int .i64 0, .bool false, .slice none 0 0, .slice none 0 0, .slice none 0 0, .slice none 0 0, .string ⟨#[]⟩, .string ⟨#[]⟩, .bool false, .bool false, .string ⟨#[]⟩, .string ⟨#[]⟩, .string ⟨#[]⟩, .bool false, .int .i64 0, .int .i64 0, .string ⟨#[]⟩, .string ⟨#[]⟩, .slice none 0 0] = D := ⟨_, rfl⟩
  have hD1 : D.all (·.oneCell') = true := by rw [← hD]; simp [Value.oneCell']
  have hD2 : D.size = 28 := by rw [← hD]; rfl
  have b1 : Below w.heap.size w (w.alloc (.cells #[.int .i64 0, .int .i64 0, .string ⟨#[]⟩, .int .i64 0, .bool false, .string ⟨#[]⟩, .int .i64 0, .int .i64 0, .int .i64 0, .int .i64 0, .bool false, .slice none 0 0, .slice none 0 0, .slice none 0 0, .slice none 0 0, .string ⟨#[]⟩, .string ⟨#[]⟩, .bool false, .bool false, .string ⟨#[]⟩, .string ⟨#[]⟩, .string ⟨#[]⟩, .bool false, .int .i64 0, .int .i64 0, .string ⟨#[]⟩, .string ⟨#[]⟩, .slice none 0 0] 32)) := (Below.refl _ _).alloc (Nat.le_refl _) _
  have x3 : (w.alloc (.cells #[.int .i64 0, .int .i64 0, .string ⟨#[]⟩, .int .i64 0, .bool false, .string ⟨#[]⟩, .int .i64 0, .int .i64 0, .int .i64 0, .int .i64 0, .bool false, .slice none 0 0, .slice none 0 0, .slice none 0 0, .slice none 0 0, .string ⟨#[]⟩, .string ⟨#[]⟩, .bool false, .bool false, .string ⟨#[]⟩, .string ⟨#[]⟩, .string ⟨#[]⟩, .bool false, .int .i64 0, .int .i64 0, .string ⟨#[]⟩, .string ⟨#[]⟩, .slice none 0 0] 32)).heap[w.heap.size]? = some (.cells #[.int .i64 0, .int .i64 0, .string ⟨#[]⟩, .int .i64 0, .bool false, .string ⟨#[]⟩, .int .i64 0, .int .i64 0, .int .i64 0, .int .i64 0, .bool false, .slice none 0 0, .slice none 0 0, .slice none 0 0, .slice none 0 0, .string ⟨#[]⟩, .string ⟨#[]⟩, .bool false, .bool false, .string ⟨#[]⟩, .string ⟨#[]⟩, .string ⟨#[]⟩, .bool false, .int .i64 0, .int .i64 0, .string ⟨#[]⟩, .string ⟨#[]⟩, .slice none 0 0] 32 (0, 0)) := alloc_at _ _ _ rfl
  have C1 := (b1.block C (Array.getElem?_eq_some_iff.1 hC).1).trans hC
  obtain ⟨c0, c1, c2, c3, c7, c8⟩ := conn_cells C1
  have b3 : Below w.heap.size w ((w.alloc (.cells #[.int .i64 0, .int .i64 0, .string ⟨#[]⟩, .int .i64 0, .bool false, .string ⟨#[]⟩, .int .i64 0, .int .i64 0, .int .i64 0, .int .i64 0, .bool false, .slice none 0 0, .slice none 0 0, .slice none 0 0, .slice none 0 0, .string ⟨#[]⟩, .string ⟨#[]⟩, .bool false, .bool false, .string ⟨#[]⟩, .string ⟨#[]⟩, .string ⟨#[]⟩, .bool false, .int .i64 0, .int .i64 0, .string ⟨#[]⟩, .string ⟨#[]⟩, .slice none 0 0] 32)).setRow w.heap.size D) := below_row b1 (Nat.le_refl _) D
  have e3 := setRow_heap (w.alloc (.cells #[.int .i64 0, .int .i64 0, .string ⟨#[]⟩, .int .i64 0, .bool false, .string ⟨#[]⟩, .int .i64 0, .int .i64 0, .int .i64 0, .int .i64 0, .bool false, .slice none 0 0, .slice none 0 0, .slice none 0 0, .slice none 0 0, .string ⟨#[]⟩, .string ⟨#[]⟩, .bool false, .bool false, .string ⟨#[]⟩, .string ⟨#[]⟩, .string ⟨#[]⟩, .bool false, .int .i64 0, .int .i64 0, .string ⟨#[]⟩, .string ⟨#[]⟩, .slice none 0 0] 32)) w.heap.size _ D _ _ x3
  have X3 := Lib.hid x3
  have E3 := Lib.hid e3
  have B3 := Lib.hid b3
  have HD := Lib.hid hD
  have HD1 := Lib.hid hD1
  have HD2 := Lib.hid hD2
  clear x3 e3 b3 hD hD1 hD2 b1 C1 hC c0 c2 c7
  go_enter Tryz.func8, Tryz.ntmps8
  go_wp2_with fail
  refine wp_loop_rounds 1 ?_
  rw [rounds_succ]
  go_wp2_with (refine wpList_storeRow rfl 32 (.tmp 2) (.tmp 44) rfl w.heap.size 32 #[.int .i64 0, .int .i64 0, .string ⟨#[]⟩, .int .i64 0, .bool false, .string ⟨#[]⟩, .int .i64 0, .int .i64 0, .int .i64 0, .int .i64 0, .bool false, .slice none 0 0, .slice none 0 0, .slice none 0 0, .slice none 0 0, .string ⟨#[]⟩, .string ⟨#[]⟩, .bool false, .bool false, .string ⟨#[]⟩, .string ⟨#[]⟩, .string ⟨#[]⟩, .bool false, .int .i64 0, .int .i64 0, .string ⟨#[]⟩, .string ⟨#[]⟩, .slice none 0 0] D (by rfl) (by show Act.eval _ (.tmp 44) = .agg D; rw [← HD.out]; rfl) X3.out (by rw [HD2.out]; rfl) (by rw [HD2.out]; rfl) HD1.out ?_; clear c1 c3 c8; generalize ((w.alloc (.cells #[.int .i64 0, .int .i64 0, .string ⟨#[]⟩, .int .i64 0, .bool false, .string ⟨#[]⟩, .int .i64 0, .int .i64 0, .int .i64 0, .int .i64 0, .bool false, .slice none 0 0, .slice none 0 0, .slice none 0 0, .slice none 0 0, .string ⟨#[]⟩, .string ⟨#[]⟩, .bool false, .bool false, .string ⟨#[]⟩, .string ⟨#[]⟩, .string ⟨#[]⟩, .bool false, .int .i64 0, .int .i64 0, .string ⟨#[]⟩, .string ⟨#[]⟩, .slice none 0 0] 32)).setRow w.heap.size D) = w4 at E3 B3 ⊢; clear X3)
  have hr := run_loadVar_row (P := Tryz.prog) w4 w.heap.size 32 32 D (0, 0) _ E3.out (show Tryz.prog.underlying 32 = _ from Tryz.underlying32) (by rfl) (by rw [HD2.out]; rfl)
  refine bodyPost_ret (v := .tuple #[.agg D, .bool false]) ?_ rfl ⟨by rw [HD.out], B3.out⟩
  simp [results, Tryz.f8]
  show ((Sem.run Tryz.prog (loadVar 32 ⟨w.heap.size, 0, none⟩) w4).andThen fun a w' => Result.ok (Value.tuple #[a, .bool false]) w') = _
  rw [hr]
  simp
set_option maxRecDepth 100000 in
set_option maxHeartbeats 4000000 in
theorem Next_one (B C : Nat) (ticks : Int) (w : World) (g cap r : Nat) (hW : WaitsAt B C [] (.pointer none) ticks w g cap r) :
    Calls Tryz.prog 8 #[.pointer (some ⟨C, 0, none⟩)] w fun e w' => e = .returned (.tuple #[.agg #[.int .i64 1, .int .i64 10, .string ⟨#[100, 99, 61, 122]⟩, .int .i64 0, .bool false, .string ⟨#[]⟩, .int .i64 0, .int .i64 0, .int .i64 0, .int .i64 0, .bool false, .slice none 0 0, .slice none 0 0, .slice none 0 0, .slice none 0 0, .string ⟨#[]⟩, .string ⟨#[]⟩, .bool false, .bool false, .string ⟨#[]⟩, .string ⟨#[]⟩, .string ⟨#[]⟩, .bool false, .int .i64 0, .int .i64 0, .string ⟨#[]⟩, .string ⟨#[]⟩, .slice none 0 0], .bool true]) ∧ (∃ F, w.heap.size ≤ F ∧ w'.heap[C]? = some (.cells (connR [] (.slice (some ⟨g, 0, none⟩) 0 cap) (.map (some r)) (.pointer (some ⟨F, 0, none⟩)) ticks) 49 (0, 0)) ∧ w'.cell? ⟨F, 0, none⟩ = some (.int .i64 1)) ∧ BelP (fun j => j = C ∨ j = g ∨ j = r) w w' := by
  obtain ⟨PR, hPR⟩ : ∃ PR : Ending → World → Prop, PR = fun e w' => e = .returned (.tuple #[.agg #[.int .i64 1, .int .i64 10, .string ⟨#[100, 99, 61, 122]⟩, .int .i64 0, .bool false, .string ⟨#[]⟩, .int .i64 0, .int .i64 0, .int .i64 0, .int .i64 0, .bool false, .slice none 0 0, .slice none 0 0, .slice none 0 0, .slice none 0 0, .string ⟨#[]⟩, .string ⟨#[]⟩, .bool false, .bool false, .string ⟨#[]⟩, .string ⟨#[]⟩, .string ⟨#[]⟩, .bool false, .int .i64 0, .int .i64 0, .string ⟨#[]⟩, .string ⟨#[]⟩, .slice none 0 0], .bool true]) ∧ (∃ F, w.heap.size ≤ F ∧ w'.heap[C]? = some (.cells (connR [] (.slice (some ⟨g, 0, none⟩) 0 cap) (.map (some r)) (.pointer (some ⟨F, 0, none⟩)) ticks) 49 (0, 0)) ∧ w'.cell? ⟨F, 0, none⟩ = some (.int .i64 1)) ∧ BelP (fun j => j = C ∨ j = g ∨ j = r) w w' := ⟨_, rfl⟩
  rw [← hPR]
  have HPR := Lib.hid hPR
  clear hPR
  obtain ⟨hC, hown, ⟨born, cl, hr⟩, hBr⟩ := hW
  have hCl := (Array.getElem?_eq_some_iff.1 hC).1
  have hgl : g < w.heap.size := (hown.lt g rfl).2
  have hrl := (Array.getElem?_eq_some_iff.1 hr).1
  have b1 : Below w.heap.size w (w.alloc (.cells #[.int .i64 0, .int .i64 0, .string ⟨#[]⟩, .int .i64 0, .bool false, .string ⟨#[]⟩, .int .i64 0, .int .i64 0, .int .i64 0, .int .i64 0, .bool false, .slice none 0 0, .slice none 0 0, .slice none 0 0, .slice none 0 0, .string ⟨#[]⟩, .string ⟨#[]⟩, .bool false, .bool false, .string ⟨#[]⟩, .string ⟨#[]⟩, .string ⟨#[]⟩, .bool false, .int .i64 0, .int .i64 0, .string ⟨#[]⟩, .string ⟨#[]⟩, .slice none 0 0] 32)) := (Below.refl _ _).alloc (Nat.le_refl _) _
  have x1 : (w.alloc (.cells #[.int .i64 0, .int .i64 0, .string ⟨#[]⟩, .int .i64 0, .bool false, .string ⟨#[]⟩, .int .i64 0, .int .i64 0, .int .i64 0, .int .i64 0, .bool false, .slice none 0 0, .slice none 0 0, .slice none 0 0, .slice none 0 0, .string ⟨#[]⟩, .string ⟨#[]⟩, .bool false, .bool false, .string ⟨#[]⟩, .string ⟨#[]⟩, .string ⟨#[]⟩, .bool false, .int .i64 0, .int .i64 0, .string ⟨#[]⟩, .string ⟨#[]⟩, .slice none 0 0] 32)).heap[w.heap.size]? = some (.cells #[.int .i64 0, .int .i64 0, .string ⟨#[]⟩, .int .i64 0, .bool false, .string ⟨#[]⟩, .int .i64 0, .int .i64 0, .int .i64 0, .int .i64 0, .bool false, .slice none 0 0, .slice none 0 0, .slice none 0 0, .slice none 0 0, .string ⟨#[]⟩, .string ⟨#[]⟩, .bool false, .bool false, .string ⟨#[]⟩, .string ⟨#[]⟩, .string ⟨#[]⟩, .bool false, .int .i64 0, .int .i64 0, .string ⟨#[]⟩, .string ⟨#[]⟩, .slice none 0 0] 32 (0, 0)) := alloc_at _ _ _ rfl
  have C1 := (b1.block C hCl).trans hC
  have W1 : WaitsAt B C [] (.pointer none) ticks (w.alloc (.cells #[.int .i64 0, .int .i64 0, .string ⟨#[]⟩, .int .i64 0, .bool false, .string ⟨#[]⟩, .int .i64 0, .int .i64 0, .int .i64 0, .int .i64 0, .bool false, .slice none 0 0, .slice none 0 0, .slice none 0 0, .slice none 0 0, .string ⟨#[]⟩, .string ⟨#[]⟩, .bool false, .bool false, .string ⟨#[]⟩, .string ⟨#[]⟩, .string ⟨#[]⟩, .bool false, .int .i64 0, .int .i64 0, .string ⟨#[]⟩, .string ⟨#[]⟩, .slice none 0 0] 32)) g cap r := ⟨C1, own_below hown b1, ⟨born, cl, (b1.block _ hrl).trans hr⟩, hBr⟩
  obtain ⟨c0, c1, c2, c3, c7, c8⟩ := conn_cells C1
  have hs1 : (w.alloc (.cells #[.int .i64 0, .int .i64 0, .string ⟨#[]⟩, .int .i64 0, .bool false, .string ⟨#[]⟩, .int .i64 0, .int .i64 0, .int .i64 0, .int .i64 0, .bool false, .slice none 0 0, .slice none 0 0, .slice none 0 0, .slice none 0 0, .string ⟨#[]⟩, .string ⟨#[]⟩, .bool false, .bool false, .string ⟨#[]⟩, .string ⟨#[]⟩, .string ⟨#[]⟩, .bool false, .int .i64 0, .int .i64 0, .string ⟨#[]⟩, .string ⟨#[]⟩, .slice none 0 0] 32)).heap.size = w.heap.size + 1 := by simp
  have HS1 := Lib.hid hs1
  have HW1 := Lib.hid W1
  clear hs1 hC hown hr W1 c0 c2 c7
  obtain ⟨D, hD⟩ : ∃ D : Array Value, #[.int .i64 1, .int .i64 10, .string ⟨#[100, 99, 61, 122]⟩, .int .i64 0, .bool false, .string ⟨#[]⟩, .int .i64 0, .int .i64 0, .int .i64 0, .int .i64 0, .bool false, .slice none 0 0, .slice none 0 0, .slice none 0 0, .slice none 0 0, .string ⟨#[]⟩, .string ⟨#[]⟩, .bool false, .bool false, .string ⟨#[]⟩, .string ⟨#[]⟩, .string ⟨#[]⟩, .bool false, .int .i64 0, .int .i64 0, .string ⟨#[]⟩, .string ⟨#[]⟩, .slice none 0 0] = D := ⟨_, rfl⟩
  have hD1 : D.all (·.oneCell') = true := by rw [← hD]; simp [Value.oneCell']
  have hD2 : D.size = 28 := by rw [← hD]; rfl
  have hD0 : D[0]? = some (.int .i64 1) := by rw [← hD]; rfl
  have kd := fun w h => drop_one B C [] ticks w g cap r h
  have ki := fun w => isCancel_del w
  rw [show msgD 1 10 [100, 99, 61, 122] = D from del_row.trans hD] at ki
  simp only [hD] at kd
  have HD := Lib.hid hD
  have HD0 := Lib.hid hD0
  have HD1 := Lib.hid hD1
  have HD2 := Lib.hid hD2
  have KD := Lib.hid kd
  have KI := Lib.hid ki
  clear hD hD0 hD1 hD2 kd ki
  go_enter Tryz.func8, Tryz.ntmps8
  go_wp2_with fail
  refine wp_loop_rounds 1 ?_
  rw [rounds_succ]
  generalize w.alloc (.cells #[.int .i64 0, .int .i64 0, .string ⟨#[]⟩, .int .i64 0, .bool false, .string ⟨#[]⟩, .int .i64 0, .int .i64 0, .int .i64 0, .int .i64 0, .bool false, .slice none 0 0, .slice none 0 0, .slice none 0 0, .slice none 0 0, .string ⟨#[]⟩, .string ⟨#[]⟩, .bool false, .bool false, .string ⟨#[]⟩, .string ⟨#[]⟩, .string ⟨#[]⟩, .bool false, .int .i64 0, .int .i64 0, .string ⟨#[]⟩, .string ⟨#[]⟩, .slice none 0 0] 32) = w1 at b1 x1 C1 c1 c3 c8 HS1 HW1 ⊢
  go_wp2_with fail
  have kd := KD.out w1 HW1.out
  refine Calls.mono (show Calls _ _ _ _ _ from kd) ?_
  rintro e w2 ⟨rfl, C2, hb2⟩
  have hw1 : w1.heap.size = w.heap.size + 1 := HS1.out
  have x2 := (hb2.block w.heap.size (by omega) (by omega)).trans x1
  have b2 : BelP (fun j => j = C ∨ j = g ∨ j = r) w w2 := (BelP.of_below b1).trans hb2
  clear kd KD HW1 HS1 c1 c3 c8 C1 x1 b1 hb2 hw1
  have y3 : (w2.alloc (.cells #[.int .i64 0, .int .i64 0, .string ⟨#[]⟩, .int .i64 0, .bool false, .string ⟨#[]⟩, .int .i64 0, .int .i64 0, .int .i64 0, .int .i64 0, .bool false, .slice none 0 0, .slice none 0 0, .slice none 0 0, .slice none 0 0, .string ⟨#[]⟩, .string ⟨#[]⟩, .bool false, .bool false, .string ⟨#[]⟩, .string ⟨#[]⟩, .string ⟨#[]⟩, .bool false, .int .i64 0, .int .i64 0, .string ⟨#[]⟩, .string ⟨#[]⟩, .slice none 0 0] 32)).heap[w2.heap.size]? = some (.cells #[.int .i64 0, .int .i64 0, .string ⟨#[]⟩, .int .i64 0, .bool false, .string ⟨#[]⟩, .int .i64 0, .int .i64 0, .int .i64 0, .int .i64 0, .bool false, .slice none 0 0, .slice none 0 0, .slice none 0 0, .slice none 0 0, .string ⟨#[]⟩, .string ⟨#[]⟩, .bool false, .bool false, .string ⟨#[]⟩, .string ⟨#[]⟩, .string ⟨#[]⟩, .bool false, .int .i64 0, .int .i64 0, .string ⟨#[]⟩, .string ⟨#[]⟩, .slice none 0 0] 32 (0, 0)) := alloc_at _ _ _ rfl
  have g3 : Below w2.heap.size w2 ((w2.alloc (.cells #[.int .i64 0, .int .i64 0, .string ⟨#[]⟩, .int .i64 0, .bool false, .string ⟨#[]⟩, .int .i64 0, .int .i64 0, .int .i64 0, .int .i64 0, .bool false, .slice none 0 0, .slice none 0 0, .slice none 0 0, .slice none 0 0, .string ⟨#[]⟩, .string ⟨#[]⟩, .bool false, .bool false, .string ⟨#[]⟩, .string ⟨#[]⟩, .string ⟨#[]⟩, .bool false, .int .i64 0, .int .i64 0, .string ⟨#[]⟩, .string ⟨#[]⟩, .slice none 0 0] 32)).setRow w2.heap.size D) := below_row ((Below.refl _ _).alloc (Nat.le_refl _) _) (Nat.le_refl _) D
  have e3 := setRow_heap (w2.alloc (.cells #[.int .i64 0, .int .i64 0, .string ⟨#[]⟩, .int .i64 0, .bool false, .string ⟨#[]⟩, .int .i64 0, .int .i64 0, .int .i64 0, .int .i64 0, .bool false, .slice none 0 0, .slice none 0 0, .slice none 0 0, .slice none 0 0, .string ⟨#[]⟩, .string ⟨#[]⟩, .bool false, .bool false, .string ⟨#[]⟩, .string ⟨#[]⟩, .string ⟨#[]⟩, .bool false, .int .i64 0, .int .i64 0, .string ⟨#[]⟩, .string ⟨#[]⟩, .slice none 0 0] 32)) w2.heap.size _ D _ _ y3
  have C3 := (g3.block C (Array.getElem?_eq_some_iff.1 C2).1).trans C2
  have x3 := (g3.block _ (Array.getElem?_eq_some_iff.1 x2).1).trans x2
  have b3 : BelP (fun j => j = C ∨ j = g ∨ j = r) w ((w2.alloc (.cells #[.int .i64 0, .int .i64 0, .string ⟨#[]⟩, .int .i64 0, .bool false, .string ⟨#[]⟩, .int .i64 0, .int .i64 0, .int .i64 0, .int .i64 0, .bool false, .slice none 0 0, .slice none 0 0, .slice none 0 0, .slice none 0 0, .string ⟨#[]⟩, .string ⟨#[]⟩, .bool false, .bool false, .string ⟨#[]⟩, .string ⟨#[]⟩, .string ⟨#[]⟩, .bool false, .int .i64 0, .int .i64 0, .string ⟨#[]⟩, .string ⟨#[]⟩, .slice none 0 0] 32)).setRow w2.heap.size D) := b2.trans (BelP.of_below g3)
  have hFC : w2.heap.size ≠ C := by
    have := (Array.getElem?_eq_some_iff.1 C2).1
    omega
  have hFE : w2.heap.size ≠ w.heap.size := by
    have := (Array.getElem?_eq_some_iff.1 x2).1
    omega
  have hFs := b2.size
  have Y3 := Lib.hid y3
  have E3 := Lib.hid e3
  have HC3 := Lib.hid C3
  have HX3 := Lib.hid x3
  have HB3 := Lib.hid b3
  clear y3 e3 C3 x3 b3 g3 C2 x2 b2
  go_wp2_with (first
    | (refine wpList_storeRow rfl 32 (.tmp 4) (.tmp 30) rfl w2.heap.size 32 #[.int .i64 0, .int .i64 0, .string ⟨#[]⟩, .int .i64 0, .bool false, .string ⟨#[]⟩, .int .i64 0, .int .i64 0, .int .i64 0, .int .i64 0, .bool false, .slice none 0 0, .slice none 0 0, .slice none 0 0, .slice none 0 0, .string ⟨#[]⟩, .string ⟨#[]⟩, .bool false, .bool false, .string ⟨#[]⟩, .string ⟨#[]⟩, .string ⟨#[]⟩, .bool false, .int .i64 0, .int .i64 0, .string ⟨#[]⟩, .string ⟨#[]⟩, .slice none 0 0] D (by rfl) (by rfl) Y3.out (by rw [HD2.out]; rfl) (by rw [HD2.out]; rfl) HD1.out ?_; generalize ((w2.alloc (.cells #[.int .i64 0, .int .i64 0, .string ⟨#[]⟩, .int .i64 0, .bool false, .string ⟨#[]⟩, .int .i64 0, .int .i64 0, .int .i64 0, .int .i64 0, .bool false, .slice none 0 0, .slice none 0 0, .slice none 0 0, .slice none 0 0, .string ⟨#[]⟩, .string ⟨#[]⟩, .bool false, .bool false, .string ⟨#[]⟩, .string ⟨#[]⟩, .string ⟨#[]⟩, .bool false, .int .i64 0, .int .i64 0, .string ⟨#[]⟩, .string ⟨#[]⟩, .slice none 0 0] 32)).setRow w2.heap.size D) = w3 at E3 HC3 HX3 HB3 ⊢; clear Y3; generalize w2.heap.size = F at E3 hFC hFE hFs ⊢)
    | (refine wpList_loadRow rfl 32 (.tmp 4) rfl F 32 D (0, 0) (by rfl) E3.out _ Tryz.underlying32 rfl (by rw [HD2.out]; rfl) ?_))
  have ki := KI.out w3
  refine Calls.mono (show Calls _ _ _ _ _ from ki) ?_
  rintro e w4 ⟨rfl, hb4⟩
  have C4 := (hb4.block C (Array.getElem?_eq_some_iff.1 HC3.out).1).trans HC3.out
  have x4 := (hb4.block _ (Array.getElem?_eq_some_iff.1 HX3.out).1).trans HX3.out
  have e4 := (hb4.block F (Array.getElem?_eq_some_iff.1 E3.out).1).trans E3.out
  have b4 := HB3.out.trans (BelP.of_below hb4)
  clear ki KI hb4 E3 HC3 HX3 HB3
  have c3 : w4.cell? ⟨C, 3, none⟩ = some (.pointer none) := (Lib.cell_of_heap C4 3).trans rfl
  have z3 := Lib.frozen_of_heap C4 3
  have C5 : (w4.setCell ⟨C, 3, none⟩ (.pointer (some ⟨F, 0, none⟩))).heap[C]? = some (.cells (connR [] (.slice (some ⟨g, 0, none⟩) 0 cap) (.map (some r)) (.pointer (some ⟨F, 0, none⟩)) ticks) 49 (0, 0)) := setCell_at (i := 3) (u := .pointer (some ⟨F, 0, none⟩)) C4
  have x5 : (w4.setCell ⟨C, 3, none⟩ (.pointer (some ⟨F, 0, none⟩))).heap[w.heap.size]? = some (.cells #[.int .i64 0, .int .i64 0, .string ⟨#[]⟩, .int .i64 0, .bool false, .string ⟨#[]⟩, .int .i64 0, .int .i64 0, .int .i64 0, .int .i64 0, .bool false, .slice none 0 0, .slice none 0 0, .slice none 0 0, .slice none 0 0, .string ⟨#[]⟩, .string ⟨#[]⟩, .bool false, .bool false, .string ⟨#[]⟩, .string ⟨#[]⟩, .string ⟨#[]⟩, .bool false, .int .i64 0, .int .i64 0, .string ⟨#[]⟩, .string ⟨#[]⟩, .slice none 0 0] 32 (0, 0)) := (heap_setCell_other w4 ⟨C, 3, none⟩ w.heap.size _ (by show w.heap.size ≠ C; omega)).trans x4
  have e5 : (w4.setCell ⟨C, 3, none⟩ (.pointer (some ⟨F, 0, none⟩))).heap[F]? = some (.cells D 32 (0, 0)) := (heap_setCell_other w4 ⟨C, 3, none⟩ F _ hFC).trans e4
  have b5 : BelP (fun j => j = C ∨ j = g ∨ j = r) w (w4.setCell ⟨C, 3, none⟩ (.pointer (some ⟨F, 0, none⟩))) := b4.set (p := ⟨C, 3, none⟩) (.inl (.inl rfl)) _
  have HC5 := Lib.hid C5
  have HX5 := Lib.hid x5
  have HE5 := Lib.hid e5
  have HB5 := Lib.hid b5
  clear C5 x5 e5 b5 C4 x4 e4 b4
  go_wp2_with fail
  generalize w4.setCell ⟨C, 3, none⟩ (.pointer (some ⟨F, 0, none⟩)) = w5 at HC5 HX5 HE5 HB5 ⊢
  clear c3 z3
  have kc := cut_empty C (some ⟨g, 0, none⟩) 0 cap (.map (some r)) (.pointer (some ⟨F, 0, none⟩)) ticks (by omega) w5 HC5.out
  refine Calls.mono (show Calls _ _ _ _ _ from kc) ?_
  rintro e w6 ⟨rfl, m, hw6⟩
  have b6 : Below w5.heap.size w5 w6 := by rw [hw6]; exact bel_drwN (Below.refl _ _) m
  have C6 := (b6.block C (Array.getElem?_eq_some_iff.1 HC5.out).1).trans HC5.out
  have x6 := (b6.block _ (Array.getElem?_eq_some_iff.1 HX5.out).1).trans HX5.out
  have e6 := (b6.block F (Array.getElem?_eq_some_iff.1 HE5.out).1).trans HE5.out
  have B6 := HB5.out.trans (BelP.of_below b6)
  clear kc hw6 b6 HC5 HX5 HE5 HB5
  have C7 := (setRow_other w6 w.heap.size C D (by omega)).trans C6
  have t7 := setRow_heap w6 w.heap.size _ D _ _ x6
  have q7 : (w6.setRow w.heap.size D).cell? ⟨F, 0, none⟩ = some (.int .i64 1) := (Lib.cell_of_heap ((setRow_other w6 w.heap.size F D hFE).trans e6) 0).trans HD0.out
  have B7 := B6.row (Nat.le_refl _) D
  have HC7 := Lib.hid C7
  have HT7 := Lib.hid t7
  have HQ7 := Lib.hid q7
  have HB7 := Lib.hid B7
  have HX6 := Lib.hid x6
  have HE6 := Lib.hid e6
  clear C7 t7 q7 B7 C6 x6 e6 B6
  go_wp2_with (first
    | (refine wpList_loadRow rfl 32 (.tmp 4) rfl F 32 D (0, 0) (by rfl) HE6.out _ Tryz.underlying32 rfl (by rw [HD2.out]; rfl) ?_)
    | (refine wpList_storeRow rfl 32 (.tmp 2) (.tmp 43) rfl w.heap.size 32 #[.int .i64 0, .int .i64 0, .string ⟨#[]⟩, .int .i64 0, .bool false, .string ⟨#[]⟩, .int .i64 0, .int .i64 0, .int .i64 0, .int .i64 0, .bool false, .slice none 0 0, .slice none 0 0, .slice none 0 0, .slice none 0 0, .string ⟨#[]⟩, .string ⟨#[]⟩, .bool false, .bool false, .string ⟨#[]⟩, .string ⟨#[]⟩, .string ⟨#[]⟩, .bool false, .int .i64 0, .int .i64 0, .string ⟨#[]⟩, .string ⟨#[]⟩, .slice none 0 0] D (by rfl) (by rfl) HX6.out (by rw [HD2.out]; rfl) (by rw [HD2.out]; rfl) HD1.out ?_; generalize (w6.setRow w.heap.size D) = w7 at HC7 HT7 HQ7 HB7 ⊢))
  have FIN : PR (.returned (.tuple #[.agg D, .bool true])) w7 := by
    rw [HPR.out]
    exact ⟨by rw [HD.out], ⟨F, hFs, HC7.out, HQ7.out⟩, HB7.out⟩
  refine bodyPost_ret (v := .tuple #[.agg D, .bool true]) ?_ ?_ FIN
  · have hr := run_loadVar_row (P := Tryz.prog) w7 w.heap.size 32 32 D (0, 0) _ HT7.out (show Tryz.prog.underlying 32 = _ from Tryz.underlying32) (by rfl) (by rw [HD2.out]; rfl)
    simp [results, Tryz.f8]
    show ((Sem.run Tryz.prog (loadVar 32 ⟨w.heap.size, 0, none⟩) w7).andThen fun a w' => Result.ok (Value.tuple #[a, .bool true]) w') = _
    rw [hr]
    simp
  · rfl
end Go.Proofs.YtaojidcneocelaaGreatDoor
