/- conn: cut of nothing, of a part of a message, of a message. (Written by gencnf.py.) -/
import Derived.Test.YtaojidcneocelaaGreatDoorCnE
namespace Go.Proofs.YtaojidcneocelaaGreatDoor
open Go.RowKit Go.Lib

set_option maxRecDepth 100000 in
theorem cut_empty (C : Nat) (aw : Option Addr) (n cw : Nat) (ids cur : Value) (ticks : Int) (hn : n ≤ 1) (w : World) (hC : w.heap[C]? = some (.cells (connR [] (.slice aw n cw) ids cur ticks) 49 (0, 0))) :
    Calls Tryz.prog 15 #[.pointer (some ⟨C, 0, none⟩)] w fun e w' => e = .returned (.tuple #[]) ∧ ∃ m, w' = w.drewN m := by
  obtain ⟨c0, c1, c2, c3, c7, c8⟩ := conn_cells hC
  have d1 : decide ((n : Int) < 16) = true := decide_eq_true (by omega)
  have kf := Frame_none w
  clear hC hn c2 c3 c7
  go_enter Tryz.func15, Tryz.ntmps15
  refine wp_block ?_
  refine wp_loop_rounds 1 ?_
  rw [rounds_succ]
  go_wp2_with fail
  refine Calls.mono (show Calls _ _ _ _ _ from kf) ?_
  rintro e w2 ⟨rfl, m, rfl⟩
  go_wp2_with fail
  refine bodyPost_ret (results_none rfl _ _ _) rfl ?_
  exact ⟨rfl, m, rfl⟩
set_option maxRecDepth 100000 in
theorem cut_part (C : Nat) (ids cur : Value) (ticks : Int) (w : World) (hC : w.heap[C]? = some (.cells (connR [48, 9, 2] (.slice none 0 0) ids cur ticks) 49 (0, 0))) :
    Calls Tryz.prog 15 #[.pointer (some ⟨C, 0, none⟩)] w fun e w' => e = .returned (.tuple #[]) ∧ ∃ m, w' = w.drewN m := by
  obtain ⟨c0, c1, c2, c3, c7, c8⟩ := conn_cells hC
  have kf := Frame_two 48 9 [2] (by decide) (by decide) w
  clear hC c2 c3 c7
  go_enter Tryz.func15, Tryz.ntmps15
  refine wp_block ?_
  refine wp_loop_rounds 1 ?_
  rw [rounds_succ]
  go_wp2_with fail
  refine Calls.mono (show Calls _ _ _ _ _ from kf) ?_
  rintro e w2 ⟨rfl, m, rfl⟩
  go_wp2_with fail
  refine bodyPost_ret (results_none rfl _ _ _) rfl ?_
  exact ⟨rfl, m, rfl⟩
set_option maxRecDepth 100000 in
set_option maxHeartbeats 4000000 in
theorem cut_full (C : Nat) (ticks : Int) (w : World) (hC : w.heap[C]? = some (.cells (connR [48, 9, 2, 1, 1, 74, 4, 100, 99, 61, 122] (.slice none 0 0) (.map none) (.pointer none) ticks) 49 (0, 0))) :
    Calls Tryz.prog 15 #[.pointer (some ⟨C, 0, none⟩)] w fun e w' => e = .returned (.tuple #[]) ∧ (∃ g cap r, WaitsAt w.heap.size C [] (.pointer none) ticks w' g cap r) ∧ BelR C w.heap.size w w' := by
  obtain ⟨PR, hPR⟩ : ∃ PR : Ending → World → Prop, PR = fun e w' => e = .returned (.tuple #[]) ∧ (∃ g cap r, WaitsAt w.heap.size C [] (.pointer none) ticks w' g cap r) ∧ BelR C w.heap.size w w' := ⟨_, rfl⟩
  rw [← hPR]
  have HPR := Lib.hid hPR
  clear hPR
  have hCl := (Array.getElem?_eq_some_iff.1 hC).1
  obtain ⟨c0, c1, c2, c3, c7, c8⟩ := conn_cells hC
  have kf := Frame_two 48 9 [2, 1, 1, 74, 4, 100, 99, 61, 122] (by decide) (by decide) w
  have hx : (⟨#[48, 9, 2, 1, 1, 74, 4, 100, 99, 61, 122]⟩ : ByteArray).extract 0 11 = ⟨#[48, 9, 2, 1, 1, 74, 4, 100, 99, 61, 122]⟩ := by rfl
  have hy : (⟨#[48, 9, 2, 1, 1, 74, 4, 100, 99, 61, 122]⟩ : ByteArray).extract 11 11 = ⟨#[]⟩ := by rfl
  clear c2 c3 c7
  go_enter Tryz.func15, Tryz.ntmps15
  refine wp_block ?_
  refine wp_loop_rounds 2 ?_
  rw [rounds_succ]
  go_wp2_with fail
  refine Calls.mono (show Calls _ _ _ _ _ from kf) ?_
  rintro e w2 ⟨rfl, m, hw2⟩
  have b2 : Below w.heap.size w w2 := by rw [hw2]; exact bel_drwN (Below.refl _ _) m
  have C2 := (b2.block C hCl).trans hC
  clear kf hw2 c0 c1 c8 hC
  obtain ⟨c0, c1, c2, c3, c7, c8⟩ := conn_cells C2
  obtain ⟨D, hD⟩ : ∃ D, msgD 1 10 [100, 99, 61, 122] = D := ⟨_, rfl⟩
  have hD1 : D.all (·.oneCell') = true := by rw [← hD]; simp [msgD, Value.oneCell']
  have hD2 : D.size = 28 := by rw [← hD]; rfl
  have kr := Read_alive w2
  rw [hD] at kr
  have HD := Lib.hid hD
  have HD1 := Lib.hid hD1
  have HD2 := Lib.hid hD2
  clear hD hD1 hD2
  go_wp2_with fail
  refine Calls.mono (show Calls _ _ _ _ _ from kr) ?_
  rintro e w3 ⟨rfl, hb3⟩
  have C3 := (hb3.block C (Array.getElem?_eq_some_iff.1 C2).1).trans C2
  have b3 := b2.trans (hb3.mono b2.size)
  clear kr hb3 c0 c1 c2 c3 c7 c8 b2 C2
  have y3 : (w3.alloc (.cells #[.int .i64 0, .int .i64 0, .string ⟨#[]⟩, .int .i64 0, .bool false, .string ⟨#[]⟩, .int .i64 0, .int .i64 0, .int .i64 0, .int .i64 0, .bool false, .slice none 0 0, .slice none 0 0, .slice none 0 0, .slice none 0 0, .string ⟨#[]⟩, .string ⟨#[]⟩, .bool false, .bool false, .string ⟨#[]⟩, .string ⟨#[]⟩, .string ⟨#[]⟩, .bool false, .int .i64 0, .int .i64 0, .string ⟨#[]⟩, .string ⟨#[]⟩, .slice none 0 0] 32)).heap[w3.heap.size]? = some (.cells #[.int .i64 0, .int .i64 0, .string ⟨#[]⟩, .int .i64 0, .bool false, .string ⟨#[]⟩, .int .i64 0, .int .i64 0, .int .i64 0, .int .i64 0, .bool false, .slice none 0 0, .slice none 0 0, .slice none 0 0, .slice none 0 0, .string ⟨#[]⟩, .string ⟨#[]⟩, .bool false, .bool false, .string ⟨#[]⟩, .string ⟨#[]⟩, .string ⟨#[]⟩, .bool false, .int .i64 0, .int .i64 0, .string ⟨#[]⟩, .string ⟨#[]⟩, .slice none 0 0] 32 (0, 0)) := alloc_at _ _ _ rfl
  have g3 : Below w3.heap.size w3 ((w3.alloc (.cells #[.int .i64 0, .int .i64 0, .string ⟨#[]⟩, .int .i64 0, .bool false, .string ⟨#[]⟩, .int .i64 0, .int .i64 0, .int .i64 0, .int .i64 0, .bool false, .slice none 0 0, .slice none 0 0, .slice none 0 0, .slice none 0 0, .string ⟨#[]⟩, .string ⟨#[]⟩, .bool false, .bool false, .string ⟨#[]⟩, .string ⟨#[]⟩, .string ⟨#[]⟩, .bool false, .int .i64 0, .int .i64 0, .string ⟨#[]⟩, .string ⟨#[]⟩, .slice none 0 0] 32)).setRow w3.heap.size D) := below_row ((Below.refl _ _).alloc (Nat.le_refl _) _) (Nat.le_refl _) D
  have e4 := setRow_heap (w3.alloc (.cells #[.int .i64 0, .int .i64 0, .string ⟨#[]⟩, .int .i64 0, .bool false, .string ⟨#[]⟩, .int .i64 0, .int .i64 0, .int .i64 0, .int .i64 0, .bool false, .slice none 0 0, .slice none 0 0, .slice none 0 0, .slice none 0 0, .string ⟨#[]⟩, .string ⟨#[]⟩, .bool false, .bool false, .string ⟨#[]⟩, .string ⟨#[]⟩, .string ⟨#[]⟩, .bool false, .int .i64 0, .int .i64 0, .string ⟨#[]⟩, .string ⟨#[]⟩, .slice none 0 0] 32)) w3.heap.size _ D _ _ y3
  have C4 := (g3.block C (Array.getElem?_eq_some_iff.1 C3).1).trans C3
  have b4 := b3.trans (g3.mono b3.size)
  have hCF : w3.heap.size ≠ C := by
    have := (Array.getElem?_eq_some_iff.1 C3).1
    omega
  have Y3 := Lib.hid y3
  have E4 := Lib.hid e4
  have HC4 := Lib.hid C4
  have HB4 := Lib.hid b4
  have hle := b3.size
  clear y3 e4 C4 b4 g3 b3 C3
  go_wp2_with (refine wpList_storeRow rfl 32 (.tmp 4) (.tmp 54) rfl w3.heap.size 32 #[.int .i64 0, .int .i64 0, .string ⟨#[]⟩, .int .i64 0, .bool false, .string ⟨#[]⟩, .int .i64 0, .int .i64 0, .int .i64 0, .int .i64 0, .bool false, .slice none 0 0, .slice none 0 0, .slice none 0 0, .slice none 0 0, .string ⟨#[]⟩, .string ⟨#[]⟩, .bool false, .bool false, .string ⟨#[]⟩, .string ⟨#[]⟩, .string ⟨#[]⟩, .bool false, .int .i64 0, .int .i64 0, .string ⟨#[]⟩, .string ⟨#[]⟩, .slice none 0 0] D (by rfl) (by rfl) Y3.out (by rw [HD2.out]; rfl) (by rw [HD2.out]; rfl) HD1.out ?_; generalize ((w3.alloc (.cells #[.int .i64 0, .int .i64 0, .string ⟨#[]⟩, .int .i64 0, .bool false, .string ⟨#[]⟩, .int .i64 0, .int .i64 0, .int .i64 0, .int .i64 0, .bool false, .slice none 0 0, .slice none 0 0, .slice none 0 0, .slice none 0 0, .string ⟨#[]⟩, .string ⟨#[]⟩, .bool false, .bool false, .string ⟨#[]⟩, .string ⟨#[]⟩, .string ⟨#[]⟩, .bool false, .int .i64 0, .int .i64 0, .string ⟨#[]⟩, .string ⟨#[]⟩, .slice none 0 0] 32)).setRow w3.heap.size D) = w4 at E4 HC4 HB4 ⊢; clear Y3; have c0 : w4.cell? ⟨C, 0, none⟩ = some (.string ⟨#[48, 9, 2, 1, 1, 74, 4, 100, 99, 61, 122]⟩) := (Lib.cell_of_heap HC4.out 0).trans rfl; have z0 := Lib.frozen_of_heap HC4.out 0; generalize w3.heap.size = F at E4 hCF hle ⊢; have q0 : (w4.setCell ⟨C, 0, none⟩ (.string ByteArray.empty)).cell? ⟨F, 0, none⟩ = some (.int .i64 1) := (Lib.cell_of_heap ((heap_setCell_other w4 ⟨C, 0, none⟩ F (.string ByteArray.empty) hCF).trans E4.out) 0).trans (by rw [← HD.out]; rfl); have q1 : (w4.setCell ⟨C, 0, none⟩ (.string ByteArray.empty)).cell? ⟨F, 1, none⟩ = some (.int .i64 10) := (Lib.cell_of_heap ((heap_setCell_other w4 ⟨C, 0, none⟩ F (.string ByteArray.empty) hCF).trans E4.out) 1).trans (by rw [← HD.out]; rfl))
  have C5 : (w4.setCell ⟨C, 0, none⟩ (.string ByteArray.empty)).heap[C]? = some (.cells (connR [] (.slice none 0 0) (.map none) (.pointer none) ticks) 49 (0, 0)) := setCell_at (i := 0) (u := .string ByteArray.empty) HC4.out
  have e5 : (w4.setCell ⟨C, 0, none⟩ (.string ByteArray.empty)).heap[F]? = some (.cells D 32 (0, 0)) := (heap_setCell_other w4 ⟨C, 0, none⟩ F _ hCF).trans E4.out
  have b5 : BelR C w.heap.size w (w4.setCell ⟨C, 0, none⟩ (.string ByteArray.empty)) := (BelR.of_below HB4.out).set 0 _
  generalize w4.setCell ⟨C, 0, none⟩ (.string ByteArray.empty) = w5 at C5 e5 b5 q0 q1 ⊢
  clear c0 z0 E4 HC4 HB4 hx hy
  have kq := isReq_any 10 w5
  rw [show isReqL.contains 10 = true from rfl] at kq
  refine Calls.mono (show Calls _ _ _ _ _ from kq) ?_
  rintro e w6 ⟨rfl, hb6⟩
  have C6 := (hb6.block C (Array.getElem?_eq_some_iff.1 C5).1).trans C5
  have e6 := (hb6.block F (Array.getElem?_eq_some_iff.1 e5).1).trans e5
  have b6 := b5.trans (BelR.of_below (R := C) (hb6.mono b5.size))
  clear kq hb6 C5 e5 b5 q0 q1
  have q0 : w6.cell? ⟨F, 0, none⟩ = some (.int .i64 1) := (Lib.cell_of_heap e6 0).trans (by rw [← HD.out]; rfl)
  have q1 : w6.cell? ⟨F, 1, none⟩ = some (.int .i64 10) := (Lib.cell_of_heap e6 1).trans (by rw [← HD.out]; rfl)
  have kt := taken_none C [] ticks 1 w6 C6
  go_wp2_with fail
  refine Calls.mono (show Calls _ _ _ _ _ from kt) ?_
  rintro e w7 ⟨rfl, hb7⟩
  have C7 := (hb7.block C (Array.getElem?_eq_some_iff.1 C6).1).trans C6
  have e7 := (hb7.block F (Array.getElem?_eq_some_iff.1 e6).1).trans e6
  have b7 := b6.trans (BelR.of_below (R := C) (hb7.mono b6.size))
  clear kt hb7 C6 e6 b6 q0 q1
  have kc := comes_del C [] ticks w7 C7
  rw [show #[.int .i64 1, .int .i64 10, .string ⟨#[100, 99, 61, 122]⟩, .int .i64 0, .bool false, .string ⟨#[]⟩, .int .i64 0, .int .i64 0, .int .i64 0, .int .i64 0, .bool false, .slice none 0 0, .slice none 0 0, .slice none 0 0, .slice none 0 0, .string ⟨#[]⟩, .string ⟨#[]⟩, .bool false, .bool false, .string ⟨#[]⟩, .string ⟨#[]⟩, .string ⟨#[]⟩, .bool false, .int .i64 0, .int .i64 0, .string ⟨#[]⟩, .string ⟨#[]⟩, .slice none 0 0] = D from del_row.symm.trans HD.out] at kc
  go_wp2_with (refine wpList_loadRow rfl 32 (.tmp 4) rfl F 32 D (0, 0) (by rfl) e7 _ Tryz.underlying32 rfl (by rw [HD2.out]; rfl) ?_)
  refine Calls.mono (show Calls _ _ _ _ _ from kc) ?_
  rintro e w8 ⟨rfl, ⟨g, cap, r, hW⟩, hb8⟩
  have b8 := b7.trans (hb8.mono b7.size)
  clear kc hb8 C7 e7
  have hb7s := b7.size
  have hW' : WaitsAt w.heap.size C [] (.pointer none) ticks w8 g cap r := ⟨hW.row, own_mono hW.own hb7s, hW.ids, Nat.le_trans hb7s hW.hr⟩
  obtain ⟨c0, c1, c2, c3, c7, c8⟩ := conn_cells hW.row
  have kf := Frame_none w8
  have HW := Lib.hid hW'
  clear hW hW' b7 hb7s c2 c3 c7
  go_wp2_with fail
  rw [rounds_succ]
  go_wp2_with fail
  refine Calls.mono (show Calls _ _ _ _ _ from kf) ?_
  rintro e w9 ⟨rfl, m, hw9⟩
  have FIN : PR (.returned (.tuple #[])) w9 := by
    rw [HPR.out, hw9]
    obtain ⟨h1, h2, ⟨born, cl, h3⟩, h4⟩ := HW.out
    exact ⟨rfl, ⟨g, cap, r, h1, h2, ⟨born, cl, h3⟩, h4⟩, ⟨b8.os, b8.tape, b8.output, b8.size, b8.block⟩⟩
  have c0' : w9.cell? ⟨C, 0, none⟩ = some (.string ⟨#[]⟩) := by rw [hw9]; exact c0
  clear c0 c1 c8 kf HW hw9
  go_wp2_with fail
  exact bodyPost_ret (results_none rfl _ _ _) rfl FIN
end Go.Proofs.YtaojidcneocelaaGreatDoor
