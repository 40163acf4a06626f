/- conn: Feed of a part of a message and of its rest; Waiting, Current, Closed, Limit. (Written by gencng.py.) -/
import Derived.Test.YtaojidcneocelaaGreatDoorCnF
namespace Go.Proofs.YtaojidcneocelaaGreatDoor
open Go.RowKit Go.Lib

set_option maxRecDepth 100000 in
theorem Feed_one (C : Nat) (w : World) (hC : w.heap[C]? = some (.cells (connR [] (.slice none 0 0) (.map none) (.pointer none) 0) 49 (0, 0))) :
    Calls Tryz.prog 4 #[.pointer (some ⟨C, 0, none⟩), .string ⟨#[48, 9, 2]⟩] w fun e w' => e = .returned (.tuple #[]) ∧ w'.heap[C]? = some (.cells (connR [48, 9, 2] (.slice none 0 0) (.map none) (.pointer none) 0) 49 (0, 0)) ∧ BelR C w.heap.size w w' := by
  obtain ⟨c0, c1, c2, c3, c7, c8⟩ := conn_cells hC
  have z0 := Lib.frozen_of_heap hC 0
  have z7 := Lib.frozen_of_heap hC 7
  have hadd : (⟨#[]⟩ : ByteArray) ++ ⟨#[48, 9, 2]⟩ = ⟨#[48, 9, 2]⟩ := by rfl
  go_enter Tryz.func4, Tryz.ntmps4
  go_upto_region 4 with fail
  have C1 : (w.setCell ⟨C, 7, none⟩ (.int .i64 0)).heap[C]? = some (.cells (connR [] (.slice none 0 0) (.map none) (.pointer none) 0) 49 (0, 0)) := setCell_at (i := 7) (u := .int .i64 0) hC
  have C2 : ((w.setCell ⟨C, 7, none⟩ (.int .i64 0)).setCell ⟨C, 0, none⟩ (.string ⟨#[48, 9, 2]⟩)).heap[C]? = some (.cells (connR [48, 9, 2] (.slice none 0 0) (.map none) (.pointer none) 0) 49 (0, 0)) := setCell_at (i := 0) (u := .string ⟨#[48, 9, 2]⟩) C1
  have b2 : BelR C w.heap.size w ((w.setCell ⟨C, 7, none⟩ (.int .i64 0)).setCell ⟨C, 0, none⟩ (.string ⟨#[48, 9, 2]⟩)) := ((BelR.of_below (Below.refl _ _)).set 7 _).set 0 _
  generalize (w.setCell ⟨C, 7, none⟩ (.int .i64 0)).setCell ⟨C, 0, none⟩ (.string ⟨#[48, 9, 2]⟩) = w2 at C2 b2 ⊢
  clear C1 c0 c1 c2 c3 c7 c8 z0 z7 hadd hC
  have kc := cut_part C (.map none) (.pointer none) 0 w2 C2
  go_wp2_with fail
  refine Calls.mono (show Calls _ _ _ _ _ from kc) ?_
  rintro e w3 ⟨rfl, m, rfl⟩
  go_wp2_with fail
  first
    | refine bodyPost_end (results_none rfl _ _ _) rfl ?_
    | refine bodyPost_ret (results_none rfl _ _ _) rfl ?_
  exact ⟨rfl, C2, ⟨b2.os, b2.tape, b2.output, b2.size, b2.block⟩⟩
set_option maxRecDepth 100000 in
theorem Feed_two (C : Nat) (w : World) (hC : w.heap[C]? = some (.cells (connR [48, 9, 2] (.slice none 0 0) (.map none) (.pointer none) 0) 49 (0, 0))) :
    Calls Tryz.prog 4 #[.pointer (some ⟨C, 0, none⟩), .string ⟨#[1, 1, 74, 4, 100, 99, 61, 122]⟩] w fun e w' => e = .returned (.tuple #[]) ∧ (∃ g cap r, WaitsAt w.heap.size C [] (.pointer none) 0 w' g cap r) ∧ BelR C w.heap.size w w' := by
  obtain ⟨c0, c1, c2, c3, c7, c8⟩ := conn_cells hC
  have z0 := Lib.frozen_of_heap hC 0
  have z7 := Lib.frozen_of_heap hC 7
  have hadd : (⟨#[48, 9, 2]⟩ : ByteArray) ++ ⟨#[1, 1, 74, 4, 100, 99, 61, 122]⟩ = ⟨#[48, 9, 2, 1, 1, 74, 4, 100, 99, 61, 122]⟩ := by rfl
  go_enter Tryz.func4, Tryz.ntmps4
  go_upto_region 4 with fail
  have C1 : (w.setCell ⟨C, 7, none⟩ (.int .i64 0)).heap[C]? = some (.cells (connR [48, 9, 2] (.slice none 0 0) (.map none) (.pointer none) 0) 49 (0, 0)) := setCell_at (i := 7) (u := .int .i64 0) hC
  have C2 : ((w.setCell ⟨C, 7, none⟩ (.int .i64 0)).setCell ⟨C, 0, none⟩ (.string ⟨#[48, 9, 2, 1, 1, 74, 4, 100, 99, 61, 122]⟩)).heap[C]? = some (.cells (connR [48, 9, 2, 1, 1, 74, 4, 100, 99, 61, 122] (.slice none 0 0) (.map none) (.pointer none) 0) 49 (0, 0)) := setCell_at (i := 0) (u := .string ⟨#[48, 9, 2, 1, 1, 74, 4, 100, 99, 61, 122]⟩) C1
  have b2 : BelR C w.heap.size w ((w.setCell ⟨C, 7, none⟩ (.int .i64 0)).setCell ⟨C, 0, none⟩ (.string ⟨#[48, 9, 2, 1, 1, 74, 4, 100, 99, 61, 122]⟩)) := ((BelR.of_below (Below.refl _ _)).set 7 _).set 0 _
  have hs2 : ((w.setCell ⟨C, 7, none⟩ (.int .i64 0)).setCell ⟨C, 0, none⟩ (.string ⟨#[48, 9, 2, 1, 1, 74, 4, 100, 99, 61, 122]⟩)).heap.size = w.heap.size := by simp [World.setCell]
  generalize (w.setCell ⟨C, 7, none⟩ (.int .i64 0)).setCell ⟨C, 0, none⟩ (.string ⟨#[48, 9, 2, 1, 1, 74, 4, 100, 99, 61, 122]⟩) = w2 at C2 b2 hs2 ⊢
  clear C1 c0 c1 c2 c3 c7 c8 z0 z7 hadd hC
  have kc := cut_full C 0 w2 C2
  rw [hs2] at kc
  clear hs2
  go_wp2_with fail
  refine Calls.mono (show Calls _ _ _ _ _ from kc) ?_
  rintro e w3 ⟨rfl, hW, hb3⟩
  have b3 := b2.trans hb3
  clear hb3 kc C2 b2
  go_wp2_with fail
  first
    | refine bodyPost_end (results_none rfl _ _ _) rfl ?_
    | refine bodyPost_ret (results_none rfl _ _ _) rfl ?_
  exact ⟨rfl, hW, b3⟩
theorem Closed_at (C : Nat) (inn : List UInt8) (waits ids cur : Value) (ticks : Int) (w : World) (hC : w.heap[C]? = some (.cells (connR inn waits ids cur ticks) 49 (0, 0))) : Calls Tryz.prog 10 #[.pointer (some ⟨C, 0, none⟩)] w fun e w' => e = .returned (.bool false) ∧ w' = w := by
  obtain ⟨c0, c1, c2, c3, c7, c8⟩ := conn_cells hC
  clear hC
  go_enter Tryz.func10, Tryz.ntmps10
  go_wp2_with fail
  go_ret
  exact ⟨rfl, rfl⟩
theorem Limit_at (C : Nat) (w : World) : Calls Tryz.prog 26 #[.pointer (some ⟨C, 0, none⟩)] w fun e w' => e = .returned (.int .i64 16) ∧ w' = w := by
  go_enter Tryz.func26, Tryz.ntmps26
  go_wp2_with fail
  go_ret
  exact ⟨rfl, rfl⟩
theorem Current_at (C F : Nat) (inn : List UInt8) (waits ids : Value) (ticks k : Int) (w : World) (hC : w.heap[C]? = some (.cells (connR inn waits ids (.pointer (some ⟨F, 0, none⟩)) ticks) 49 (0, 0))) (hF : w.cell? ⟨F, 0, none⟩ = some (.int .i64 k)) : Calls Tryz.prog 14 #[.pointer (some ⟨C, 0, none⟩)] w fun e w' => e = .returned (.int .i64 k) ∧ w' = w := by
  obtain ⟨c0, c1, c2, c3, c7, c8⟩ := conn_cells hC
  clear hC
  go_enter Tryz.func14, Tryz.ntmps14
  go_wp2_with fail
  go_ret
  exact ⟨rfl, rfl⟩
theorem Tryz.infoInt : (Tryz.prog.info? 3).map (fun i => (i.zero, i.size, i.bytes)) = some (some (.int .i64 0), 1, 8) := by kernel_rfl
set_option maxRecDepth 100000 in
set_option maxHeartbeats 4000000 in
theorem Waiting_one (B C : Nat) (inn : List UInt8) (cur : Value) (ticks : Int) (w : World) (g cap r : Nat) (hW : WaitsAt B C inn cur ticks w g cap r) :
    Calls Tryz.prog 13 #[.pointer (some ⟨C, 0, none⟩)] w fun e w' => (∃ b c, e = .returned (.slice (some ⟨b, 0, none⟩) 1 c) ∧ w.heap.size ≤ b ∧ w'.cell? ⟨b, 0, none⟩ = some (.int .i64 1)) ∧ Below w.heap.size w w' := by
  obtain ⟨i0, hi0, hz0, hz1, hz2⟩ := info_parts Tryz.infoInt
  obtain ⟨hC, hown, _, _⟩ := hW
  obtain ⟨c0, c1, c2, c3, c7, c8⟩ := conn_cells hC
  obtain ⟨D, hD⟩ : ∃ D : Array Value, #[.int .i64 1, .int .i64 10, .string ⟨#[100, 99, 61, 122]⟩, .int .i64 0, .bool false, .string ⟨#[]⟩, .int .i64 0, .int .i64 0, .int .i64 0, .int .i64 0, .bool false, .slice none 0 0, .slice none 0 0, .slice none 0 0, .slice none 0 0, .string ⟨#[]⟩, .string ⟨#[]⟩, .bool false, .bool false, .string ⟨#[]⟩, .string ⟨#[]⟩, .string ⟨#[]⟩, .bool false, .int .i64 0, .int .i64 0, .string ⟨#[]⟩, .string ⟨#[]⟩, .slice none 0 0] = D := ⟨_, rfl⟩
  have hD1 : D.all (·.oneCell') = true := by rw [← hD]; simp [Value.oneCell']
  have hD2 : D.size = 28 := by rw [← hD]; rfl
  have hD0 : D[0]? = some (.int .i64 1) := by rw [← hD]; rfl
  rw [hD] at hown
  have HD0 := Lib.hid hD0
  have HD1 := Lib.hid hD1
  have HD2 := Lib.hid hD2
  clear hD hD0 hD1 hD2
  have hrng : w.rangeAt g 0 D.toList := by
    intro j v hj
    rw [Nat.zero_add]
    exact (own_cell hown hj).1
  have y2 : (w.alloc (.cells #[.int .i64 0, .int .i64 0, .string ⟨#[]⟩, .int .i64 0, .bool false, .string ⟨#[]⟩, .int .i64 0, .int .i64 0, .int .i64 0, .int .i64 0, .bool false, .slice none 0 0, .slice none 0 0, .slice none 0 0, .slice none 0 0, .string ⟨#[]⟩, .string ⟨#[]⟩, .bool false, .bool false, .string ⟨#[]⟩, .string ⟨#[]⟩, .string ⟨#[]⟩, .bool false, .int .i64 0, .int .i64 0, .string ⟨#[]⟩, .string ⟨#[]⟩, .slice none 0 0] 32)).heap[w.heap.size]? = some (.cells #[.int .i64 0, .int .i64 0, .string ⟨#[]⟩, .int .i64 0, .bool false, .string ⟨#[]⟩, .int .i64 0, .int .i64 0, .int .i64 0, .int .i64 0, .bool false, .slice none 0 0, .slice none 0 0, .slice none 0 0, .slice none 0 0, .string ⟨#[]⟩, .string ⟨#[]⟩, .bool false, .bool false, .string ⟨#[]⟩, .string ⟨#[]⟩, .string ⟨#[]⟩, .bool false, .int .i64 0, .int .i64 0, .string ⟨#[]⟩, .string ⟨#[]⟩, .slice none 0 0] 32 (0, 0)) := alloc_at _ _ _ rfl
  have e2 := setRow_heap (w.alloc (.cells #[.int .i64 0, .int .i64 0, .string ⟨#[]⟩, .int .i64 0, .bool false, .string ⟨#[]⟩, .int .i64 0, .int .i64 0, .int .i64 0, .int .i64 0, .bool false, .slice none 0 0, .slice none 0 0, .slice none 0 0, .slice none 0 0, .string ⟨#[]⟩, .string ⟨#[]⟩, .bool false, .bool false, .string ⟨#[]⟩, .string ⟨#[]⟩, .string ⟨#[]⟩, .bool false, .int .i64 0, .int .i64 0, .string ⟨#[]⟩, .string ⟨#[]⟩, .slice none 0 0] 32)) w.heap.size _ D _ _ y2
  have g2 : Below w.heap.size w ((w.alloc (.cells #[.int .i64 0, .int .i64 0, .string ⟨#[]⟩, .int .i64 0, .bool false, .string ⟨#[]⟩, .int .i64 0, .int .i64 0, .int .i64 0, .int .i64 0, .bool false, .slice none 0 0, .slice none 0 0, .slice none 0 0, .slice none 0 0, .string ⟨#[]⟩, .string ⟨#[]⟩, .bool false, .bool false, .string ⟨#[]⟩, .string ⟨#[]⟩, .string ⟨#[]⟩, .bool false, .int .i64 0, .int .i64 0, .string ⟨#[]⟩, .string ⟨#[]⟩, .slice none 0 0] 32)).setRow w.heap.size D) := below_row ((Below.refl _ _).alloc (Nat.le_refl _) _) (Nat.le_refl _) D
  have Y2 := Lib.hid y2
  have E2 := Lib.hid e2
  have G2 := Lib.hid g2
  clear y2 e2 g2 hC hown c0 c2 c3 c7 c8
  go_enter Tryz.func13, Tryz.ntmps13
  go_wp2_with fail
  refine wp_loop_rounds 2 ?_
  rw [rounds_succ]
  go_wp2_with (first
    | (refine wpList_load_mid rfl 32 (.tmp 15) rfl g 0 (by rfl) D.toList _ hrng Tryz.underlying32 rfl (by rw [Array.length_toList, HD2.out]; rfl) ?_; rw [Array.toArray_toList])
    | (refine wpList_storeRow rfl 32 (.tmp 5) (.tmp 16) rfl w.heap.size 32 #[.int .i64 0, .int .i64 0, .string ⟨#[]⟩, .int .i64 0, .bool false, .string ⟨#[]⟩, .int .i64 0, .int .i64 0, .int .i64 0, .int .i64 0, .bool false, .slice none 0 0, .slice none 0 0, .slice none 0 0, .slice none 0 0, .string ⟨#[]⟩, .string ⟨#[]⟩, .bool false, .bool false, .string ⟨#[]⟩, .string ⟨#[]⟩, .string ⟨#[]⟩, .bool false, .int .i64 0, .int .i64 0, .string ⟨#[]⟩, .string ⟨#[]⟩, .slice none 0 0] D (by rfl) (by rfl) Y2.out (by rw [HD2.out]; rfl) (by rw [HD2.out]; rfl) HD1.out ?_; clear hrng c1; have hle : w.heap.size < ((w.alloc (.cells #[.int .i64 0, .int .i64 0, .string ⟨#[]⟩, .int .i64 0, .bool false, .string ⟨#[]⟩, .int .i64 0, .int .i64 0, .int .i64 0, .int .i64 0, .bool false, .slice none 0 0, .slice none 0 0, .slice none 0 0, .slice none 0 0, .string ⟨#[]⟩, .string ⟨#[]⟩, .bool false, .bool false, .string ⟨#[]⟩, .string ⟨#[]⟩, .string ⟨#[]⟩, .bool false, .int .i64 0, .int .i64 0, .string ⟨#[]⟩, .string ⟨#[]⟩, .slice none 0 0] 32)).setRow w.heap.size D).heap.size := (Array.getElem?_eq_some_iff.1 E2.out).1; generalize ((w.alloc (.cells #[.int .i64 0, .int .i64 0, .string ⟨#[]⟩, .int .i64 0, .bool false, .string ⟨#[]⟩, .int .i64 0, .int .i64 0, .int .i64 0, .int .i64 0, .bool false, .slice none 0 0, .slice none 0 0, .slice none 0 0, .slice none 0 0, .string ⟨#[]⟩, .string ⟨#[]⟩, .bool false, .bool false, .string ⟨#[]⟩, .string ⟨#[]⟩, .string ⟨#[]⟩, .bool false, .int .i64 0, .int .i64 0, .string ⟨#[]⟩, .string ⟨#[]⟩, .slice none 0 0] 32)).setRow w.heap.size D) = w2 at E2 G2 hle ⊢; clear Y2; have q0 : w2.cell? ⟨w.heap.size, 0, none⟩ = some (.int .i64 1) := (Lib.cell_of_heap E2.out 0).trans HD0.out)
    | (at_builtin; refine wpList_append_lies _ rfl (.tmp 17) (.tmp 20) 37 rfl w.heap.size 3 i0 _ 1 8 Tryz.underlying37 hi0 hz0 hz1 hz2 rfl (by decide) (.slice none 0 0) 0 [] rfl ⟨rfl, .inl ⟨rfl, rfl⟩⟩ ⟨w2.heap.size, 0, none⟩ 1 1 [.int .i64 1] rfl rfl (World.news_of_block (alloc_at _ _ _ rfl)) (by simp [Value.oneCell']) (by omega) (by decide) (by decide) (by simp; omega) (w2.heap.size + 1) (by simp) ?_; intro g5 cap5 w5 ho5 hg5 hat5 hlt5))
  simp only [Nat.zero_add, List.nil_append] at ho5 ⊢
  have hg5e : g5 = w2.heap.size + 1 := by
    rcases hat5 with h | h
    · cases h
    · exact h
  have hw2 := G2.out.size
  have b5 : Below w.heap.size w w5 := (G2.out.alloc hw2 _).grown hg5 (by simp; omega) (fun k h => by cases h)
  have q5 := (own_cell ho5 (i := 0) (x := .int .i64 1) rfl).1
  have FIN : (∃ b c, Ending.returned (.slice (some ⟨g5, 0, none⟩) 1 cap5) = .returned (.slice (some ⟨b, 0, none⟩) 1 c) ∧ w.heap.size ≤ b ∧ w5.cell? ⟨b, 0, none⟩ = some (.int .i64 1)) ∧ Below w.heap.size w w5 := ⟨⟨g5, cap5, rfl, by omega, q5⟩, b5⟩
  clear hat5 hg5 hlt5 ho5 hg5e hw2 b5 q5 G2 E2 hle q0
  rw [rounds_succ]
  go_wp2_with fail
  go_ret
  exact FIN
end Go.Proofs.YtaojidcneocelaaGreatDoor
