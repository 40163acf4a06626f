/- conn: comes of a delete at a connection that has nothing. (Written by gencnd.py.) -/
import Derived.Test.YtaojidcneocelaaGreatDoorCnC
namespace Go.Proofs.YtaojidcneocelaaGreatDoor
open Go.RowKit Go.Lib

/-- A connection at which one message waits. -/
structure WaitsAt (B C : Nat) (inn : List UInt8) (cur : Value) (ticks : Int) (w : World) (g cap r : Nat) : Prop where
  row : w.heap[C]? = some (.cells (connR inn (.slice (some ⟨g, 0, none⟩) 1 cap) (.map (some r)) cur ticks) 49 (0, 0))
  own : w.ownsRow B 32 28 (.slice (some ⟨g, 0, none⟩) 1 cap) 1 (#[.int .i64 1, .int .i64 10, .string ⟨#[100, 99, 61, 122]⟩, .int .i64 0, .bool false, .string ⟨#[]⟩, .int .i64 0, .int .i64 0, .int .i64 0, .int .i64 0, .bool false, .slice none 0 0, .slice none 0 0, .slice none 0 0, .slice none 0 0, .string ⟨#[]⟩, .string ⟨#[]⟩, .bool false, .bool false, .string ⟨#[]⟩, .string ⟨#[]⟩, .string ⟨#[]⟩, .bool false, .int .i64 0, .int .i64 0, .string ⟨#[]⟩, .string ⟨#[]⟩, .slice none 0 0] : Array Value).toList
  ids : ∃ born c, w.heap[r]? = some (.map #[{ key := .int .i64 1, val := .agg #[], born := born }] c)
  hr : B ≤ r
set_option maxRecDepth 100000 in
set_option maxHeartbeats 4000000 in
theorem comes_del (C : Nat) (inn : List UInt8) (ticks : Int) (w : World) (hC : w.heap[C]? = some (.cells (connR inn (.slice none 0 0) (.map none) (.pointer none) ticks) 49 (0, 0))) :
    Calls Tryz.prog 33 #[.pointer (some ⟨C, 0, none⟩), .agg #[.int .i64 1, .int .i64 10, .string ⟨#[100, 99, 61, 122]⟩, .int .i64 0, .bool false, .string ⟨#[]⟩, .int .i64 0, .int .i64 0, .int .i64 0, .int .i64 0, .bool false, .slice none 0 0, .slice none 0 0, .slice none 0 0, .slice none 0 0, .string ⟨#[]⟩, .string ⟨#[]⟩, .bool false, .bool false, .string ⟨#[]⟩, .string ⟨#[]⟩, .string ⟨#[]⟩, .bool false, .int .i64 0, .int .i64 0, .string ⟨#[]⟩, .string ⟨#[]⟩, .slice none 0 0]] w fun e w' => e = .returned (.tuple #[]) ∧ (∃ g cap r, WaitsAt w.heap.size C inn (.pointer none) ticks w' g cap r) ∧ BelR C w.heap.size w w' := by
  obtain ⟨i0, hi0, hz0, hz1, hz2⟩ := info_parts Tryz.infoMessage
  obtain ⟨PR, hPR⟩ : ∃ PR : Ending → World → Prop, PR = fun e w' => e = .returned (.tuple #[]) ∧ (∃ g cap r, WaitsAt w.heap.size C inn (.pointer none) ticks w' g cap r) ∧ BelR C w.heap.size w w' := ⟨_, rfl⟩
  rw [← hPR]
  have HPR := Lib.hid hPR
  clear hPR
  have hCl := (Array.getElem?_eq_some_iff.1 hC).1
  have b1 : Below w.heap.size w (w.alloc (.cells #[.int .i64 1, .int .i64 10, .string ⟨#[100, 99, 61, 122]⟩, .int .i64 0, .bool false, .string ⟨#[]⟩, .int .i64 0, .int .i64 0, .int .i64 0, .int .i64 0, .bool false, .slice none 0 0, .slice none 0 0, .slice none 0 0, .slice none 0 0, .string ⟨#[]⟩, .string ⟨#[]⟩, .bool false, .bool false, .string ⟨#[]⟩, .string ⟨#[]⟩, .string ⟨#[]⟩, .bool false, .int .i64 0, .int .i64 0, .string ⟨#[]⟩, .string ⟨#[]⟩, .slice none 0 0] 32)) := (Below.refl _ _).alloc (Nat.le_refl _) _
  have m1 : (w.alloc (.cells #[.int .i64 1, .int .i64 10, .string ⟨#[100, 99, 61, 122]⟩, .int .i64 0, .bool false, .string ⟨#[]⟩, .int .i64 0, .int .i64 0, .int .i64 0, .int .i64 0, .bool false, .slice none 0 0, .slice none 0 0, .slice none 0 0, .slice none 0 0, .string ⟨#[]⟩, .string ⟨#[]⟩, .bool false, .bool false, .string ⟨#[]⟩, .string ⟨#[]⟩, .string ⟨#[]⟩, .bool false, .int .i64 0, .int .i64 0, .string ⟨#[]⟩, .string ⟨#[]⟩, .slice none 0 0] 32)).heap[w.heap.size]? = some (.cells #[.int .i64 1, .int .i64 10, .string ⟨#[100, 99, 61, 122]⟩, .int .i64 0, .bool false, .string ⟨#[]⟩, .int .i64 0, .int .i64 0, .int .i64 0, .int .i64 0, .bool false, .slice none 0 0, .slice none 0 0, .slice none 0 0, .slice none 0 0, .string ⟨#[]⟩, .string ⟨#[]⟩, .bool false, .bool false, .string ⟨#[]⟩, .string ⟨#[]⟩, .string ⟨#[]⟩, .bool false, .int .i64 0, .int .i64 0, .string ⟨#[]⟩, .string ⟨#[]⟩, .slice none 0 0] 32 (0, 0)) := alloc_at _ _ _ rfl
  have t1 := (b1.block _ hCl).trans hC
  have q1 : (w.alloc (.cells #[.int .i64 1, .int .i64 10, .string ⟨#[100, 99, 61, 122]⟩, .int .i64 0, .bool false, .string ⟨#[]⟩, .int .i64 0, .int .i64 0, .int .i64 0, .int .i64 0, .bool false, .slice none 0 0, .slice none 0 0, .slice none 0 0, .slice none 0 0, .string ⟨#[]⟩, .string ⟨#[]⟩, .bool false, .bool false, .string ⟨#[]⟩, .string ⟨#[]⟩, .string ⟨#[]⟩, .bool false, .int .i64 0, .int .i64 0, .string ⟨#[]⟩, .string ⟨#[]⟩, .slice none 0 0] 32)).cell? ⟨w.heap.size, 1, none⟩ = some (.int .i64 10) := (Lib.cell_of_heap m1 1).trans rfl
  have hs1 : (w.alloc (.cells #[.int .i64 1, .int .i64 10, .string ⟨#[100, 99, 61, 122]⟩, .int .i64 0, .bool false, .string ⟨#[]⟩, .int .i64 0, .int .i64 0, .int .i64 0, .int .i64 0, .bool false, .slice none 0 0, .slice none 0 0, .slice none 0 0, .slice none 0 0, .string ⟨#[]⟩, .string ⟨#[]⟩, .bool false, .bool false, .string ⟨#[]⟩, .string ⟨#[]⟩, .string ⟨#[]⟩, .bool false, .int .i64 0, .int .i64 0, .string ⟨#[]⟩, .string ⟨#[]⟩, .slice none 0 0] 32)).heap.size = w.heap.size + 1 := by simp
  have HS1 := Lib.hid hs1
  clear hC hs1
  have hmm : ∀ (t : TypeId) (w : World), (Instr.makeMap t none).run Tryz.prog w = .ok (.map (some w.heap.size)) (w.alloc (.map #[] 0)) := fun _ _ => rfl
  have hbe : ∀ w : World, (binOp .eql 42 (.map none) (.map none)).run Tryz.prog w = .ok (.bool true) w := fun w => by rfl
  go_enter Tryz.func33, Tryz.ntmps33
  go_upto_region 1 with fail
  generalize w.alloc (.cells #[.int .i64 1, .int .i64 10, .string ⟨#[100, 99, 61, 122]⟩, .int .i64 0, .bool false, .string ⟨#[]⟩, .int .i64 0, .int .i64 0, .int .i64 0, .int .i64 0, .bool false, .slice none 0 0, .slice none 0 0, .slice none 0 0, .slice none 0 0, .string ⟨#[]⟩, .string ⟨#[]⟩, .bool false, .bool false, .string ⟨#[]⟩, .string ⟨#[]⟩, .string ⟨#[]⟩, .bool false, .int .i64 0, .int .i64 0, .string ⟨#[]⟩, .string ⟨#[]⟩, .slice none 0 0] 32) = w1 at b1 m1 t1 q1 HS1 ⊢
  go_upto_region 2 with fail
  clear q1
  refine region_anyT (S := fun w' => w'.cell? ⟨C, 1, none⟩ = some (.slice none 0 0) ∧ w'.heap[w.heap.size]? = some (.cells #[.int .i64 1, .int .i64 10, .string ⟨#[100, 99, 61, 122]⟩, .int .i64 0, .bool false, .string ⟨#[]⟩, .int .i64 0, .int .i64 0, .int .i64 0, .int .i64 0, .bool false, .slice none 0 0, .slice none 0 0, .slice none 0 0, .slice none 0 0, .string ⟨#[]⟩, .string ⟨#[]⟩, .bool false, .bool false, .string ⟨#[]⟩, .string ⟨#[]⟩, .string ⟨#[]⟩, .bool false, .int .i64 0, .int .i64 0, .string ⟨#[]⟩, .string ⟨#[]⟩, .slice none 0 0] 32 (0, 0))) (st := 10) (by kernel_rfl) ?_
  have s0 : w1.drew.cell? ⟨C, 1, none⟩ = some (.slice none 0 0) := (Lib.cell_of_heap t1 1).trans rfl
  have s1 : w1.drew.heap[w.heap.size]? = some (.cells #[.int .i64 1, .int .i64 10, .string ⟨#[100, 99, 61, 122]⟩, .int .i64 0, .bool false, .string ⟨#[]⟩, .int .i64 0, .int .i64 0, .int .i64 0, .int .i64 0, .bool false, .slice none 0 0, .slice none 0 0, .slice none 0 0, .slice none 0 0, .string ⟨#[]⟩, .string ⟨#[]⟩, .bool false, .bool false, .string ⟨#[]⟩, .string ⟨#[]⟩, .string ⟨#[]⟩, .bool false, .int .i64 0, .int .i64 0, .string ⟨#[]⟩, .string ⟨#[]⟩, .slice none 0 0] 32 (0, 0)) := m1
  have R : w1.drew.heap[C]? = some (.cells (connR inn (.slice none 0 0) (.map none) (.pointer none) ticks) 49 (0, 0)) := t1
  have b2 := b1.drew
  have hs2 : w1.drew.heap.size = w.heap.size + 1 := HS1.out
  clear m1 t1 b1 HS1
  generalize w1.drew = w2 at s0 s1 R b2 hs2 ⊢
  have HS2 := Lib.hid hs2
  clear hs2
  refine anyT_free 0 (.pointer (some ⟨C, 0, none⟩)) rfl (by decide) (by kernel_rfl) (by kernel_rfl) (by kernel_rfl) (fun _ _ _ h => h) (by rfl) (fun w' => by go_simp) (.inr ⟨s0, s1⟩) (fun K hK => ?_); go_simp; refine hK _ _ ?_; clear hK K
  refine anyT_free 1 (.pointer (some ⟨C, 0, none⟩)) rfl (by decide) (by kernel_rfl) (by kernel_rfl) (by kernel_rfl) (fun _ _ _ h => h) (by rfl) (fun w' => by go_simp) (.inr ⟨s0, s1⟩) (fun K hK => ?_); go_simp; refine hK _ _ ?_; clear hK K
  refine anyT_free 2 (.pointer (some ⟨C, 0, none⟩)) rfl (by decide) (by kernel_rfl) (by kernel_rfl) (by kernel_rfl) (fun _ _ _ h => h) (by rfl) (fun w' => by go_simp) (.inr ⟨s0, s1⟩) (fun K hK => ?_); go_simp; refine hK _ _ ?_; clear hK K
  refine anyT_free 3 (.pointer (some ⟨C, 1, none⟩)) rfl (by decide) (by kernel_rfl) (by kernel_rfl) (by kernel_rfl) (fun _ _ _ h => h) (by rfl) (fun w' => by go_simp) (.inr ⟨s0, s1⟩) (fun K hK => ?_); go_simp; refine hK _ _ ?_; clear hK K
  refine anyT_take 4 (.slice none 0 0) rfl (by decide) rfl (by kernel_rfl) (by kernel_rfl) (by kernel_rfl) (by kernel_rfl) (fun _ _ _ h => h) (by rfl) (fun w' hS => by obtain ⟨q0, q1⟩ := hS; go_simp) (by rfl) ⟨s0, s1⟩ (fun K hK => ?_); go_simp; refine hK _ _ ?_; clear hK K
  refine anyT_take 5 (.agg #[.int .i64 1, .int .i64 10, .string ⟨#[100, 99, 61, 122]⟩, .int .i64 0, .bool false, .string ⟨#[]⟩, .int .i64 0, .int .i64 0, .int .i64 0, .int .i64 0, .bool false, .slice none 0 0, .slice none 0 0, .slice none 0 0, .slice none 0 0, .string ⟨#[]⟩, .string ⟨#[]⟩, .bool false, .bool false, .string ⟨#[]⟩, .string ⟨#[]⟩, .string ⟨#[]⟩, .bool false, .int .i64 0, .int .i64 0, .string ⟨#[]⟩, .string ⟨#[]⟩, .slice none 0 0]) rfl (by decide) rfl (by kernel_rfl) (by kernel_rfl) (by kernel_rfl) (by kernel_rfl) (fun _ _ _ h => h) (by rfl) (fun w' hS => exec_loadRow 32 (.tmp 3) rfl w.heap.size 32 _ (0, 0) (by rfl) hS.2 _ Tryz.underlying32 rfl (by rfl)) (by rfl) ⟨s0, s1⟩ (fun K hK => ?_); go_simp; refine hK _ _ ?_; clear hK K
  have g3 : Below w2.heap.size w2 (w2.alloc (.cells #[.int .i64 1, .int .i64 10, .string ⟨#[100, 99, 61, 122]⟩, .int .i64 0, .bool false, .string ⟨#[]⟩, .int .i64 0, .int .i64 0, .int .i64 0, .int .i64 0, .bool false, .slice none 0 0, .slice none 0 0, .slice none 0 0, .slice none 0 0, .string ⟨#[]⟩, .string ⟨#[]⟩, .bool false, .bool false, .string ⟨#[]⟩, .string ⟨#[]⟩, .string ⟨#[]⟩, .bool false, .int .i64 0, .int .i64 0, .string ⟨#[]⟩, .string ⟨#[]⟩, .slice none 0 0] 32)) := (Below.refl _ _).alloc (Nat.le_refl _) _
  have x3 : (w2.alloc (.cells #[.int .i64 1, .int .i64 10, .string ⟨#[100, 99, 61, 122]⟩, .int .i64 0, .bool false, .string ⟨#[]⟩, .int .i64 0, .int .i64 0, .int .i64 0, .int .i64 0, .bool false, .slice none 0 0, .slice none 0 0, .slice none 0 0, .slice none 0 0, .string ⟨#[]⟩, .string ⟨#[]⟩, .bool false, .bool false, .string ⟨#[]⟩, .string ⟨#[]⟩, .string ⟨#[]⟩, .bool false, .int .i64 0, .int .i64 0, .string ⟨#[]⟩, .string ⟨#[]⟩, .slice none 0 0] 32)).heap[w2.heap.size]? = some (.cells #[.int .i64 1, .int .i64 10, .string ⟨#[100, 99, 61, 122]⟩, .int .i64 0, .bool false, .string ⟨#[]⟩, .int .i64 0, .int .i64 0, .int .i64 0, .int .i64 0, .bool false, .slice none 0 0, .slice none 0 0, .slice none 0 0, .slice none 0 0, .string ⟨#[]⟩, .string ⟨#[]⟩, .bool false, .bool false, .string ⟨#[]⟩, .string ⟨#[]⟩, .string ⟨#[]⟩, .bool false, .int .i64 0, .int .i64 0, .string ⟨#[]⟩, .string ⟨#[]⟩, .slice none 0 0] 32 (0, 0)) := alloc_at _ _ _ rfl
  have z3 : (w2.alloc (.cells #[.int .i64 1, .int .i64 10, .string ⟨#[100, 99, 61, 122]⟩, .int .i64 0, .bool false, .string ⟨#[]⟩, .int .i64 0, .int .i64 0, .int .i64 0, .int .i64 0, .bool false, .slice none 0 0, .slice none 0 0, .slice none 0 0, .slice none 0 0, .string ⟨#[]⟩, .string ⟨#[]⟩, .bool false, .bool false, .string ⟨#[]⟩, .string ⟨#[]⟩, .string ⟨#[]⟩, .bool false, .int .i64 0, .int .i64 0, .string ⟨#[]⟩, .string ⟨#[]⟩, .slice none 0 0] 32)).heap.size = w.heap.size + 2 := by simp [HS2.out]
  have u0 := (g3.cell (lt_of_cell s0)).trans s0
  have u1 := (g3.block _ (Array.getElem?_eq_some_iff.1 s1).1).trans s1
  have R3 := (g3.block _ (Array.getElem?_eq_some_iff.1 R).1).trans R
  have b3 := b2.trans (g3.mono b2.size)
  refine anyT_one 6 (by kernel_rfl) rfl (by rfl) (fun K hK => ?_); go_simp; refine hK _ _ (.inr ⟨u0, u1⟩) ?_; clear hK K
  have hG2 : w2.heap.size = w.heap.size + 1 := HS2.out
  generalize w2.heap.size = G at x3 g3 hG2 ⊢
  generalize w2.alloc (.cells #[.int .i64 1, .int .i64 10, .string ⟨#[100, 99, 61, 122]⟩, .int .i64 0, .bool false, .string ⟨#[]⟩, .int .i64 0, .int .i64 0, .int .i64 0, .int .i64 0, .bool false, .slice none 0 0, .slice none 0 0, .slice none 0 0, .slice none 0 0, .string ⟨#[]⟩, .string ⟨#[]⟩, .bool false, .bool false, .string ⟨#[]⟩, .string ⟨#[]⟩, .string ⟨#[]⟩, .bool false, .int .i64 0, .int .i64 0, .string ⟨#[]⟩, .string ⟨#[]⟩, .slice none 0 0] 32) = w3 at x3 u0 u1 R3 b3 z3 ⊢
  clear s0 s1 R b2 g3 HS2
  refine anyT_one 7 (by kernel_rfl) rfl (by rfl) (fun K hK => ?_)
  refine wp_append_lies w3 (.tmp 11) (.tmp 13) 41 rfl w.heap.size 32 i0 _ 28 368 Tryz.underlying41 hi0 hz0 hz1 hz2 rfl (by decide) (.slice none 0 0) 0 [] rfl ⟨rfl, .inl ⟨rfl, rfl⟩⟩ ⟨G, 0, none⟩ 1 1 (#[.int .i64 1, .int .i64 10, .string ⟨#[100, 99, 61, 122]⟩, .int .i64 0, .bool false, .string ⟨#[]⟩, .int .i64 0, .int .i64 0, .int .i64 0, .int .i64 0, .bool false, .slice none 0 0, .slice none 0 0, .slice none 0 0, .slice none 0 0, .string ⟨#[]⟩, .string ⟨#[]⟩, .bool false, .bool false, .string ⟨#[]⟩, .string ⟨#[]⟩, .string ⟨#[]⟩, .bool false, .int .i64 0, .int .i64 0, .string ⟨#[]⟩, .string ⟨#[]⟩, .slice none 0 0] : Array Value).toList rfl rfl (World.news_of_block x3) (by simp [Value.oneCell']) (by omega) (by decide) (by decide) (by omega) _ rfl ?_
  intro g cap w4 hown hgrow hat hlt
  have hgH : g = w3.heap.size := by
    rcases hat with h | h
    · cases h
    · exact h
  subst hgH
  have hnb : ∀ j, some j ≠ (Value.slice none 0 0).ownBlock := fun j h => by cases h
  have R4 := (hgrow.block C (Array.getElem?_eq_some_iff.1 R3).1 (hnb _)).trans R3
  have u0' := (World.cell?_of_block (a := ⟨C, 1, none⟩) (hgrow.block C (Array.getElem?_eq_some_iff.1 R3).1 (hnb _))).trans u0
  have u1' := (hgrow.block _ (Array.getElem?_eq_some_iff.1 u1).1 (hnb _)).trans u1
  have b4 : Below w.heap.size w w4 := b3.grown hgrow (by omega) (fun k h => absurd h (hnb k).symm)
  simp only [Nat.zero_add] at hown ⊢
  refine hK _ _ (.inr ⟨u0', u1'⟩) ?_; clear hK K
  have z := Lib.frozen_of_heap R4 1
  have hlt4 := hgrow.size
  generalize w3.heap.size = g at hown hlt hlt4 ⊢
  clear x3 u0 u1 R3 b3 hgrow hat hnb z3
  refine anyT_one 8 (by kernel_rfl) rfl (by rfl) (fun K hK => ?_); go_simp; refine hK _ _ (.inr ⟨u0', u1'⟩) ?_; clear hK K
  refine anyT_one 9 (by kernel_rfl) rfl (by rfl) (fun K hK => ?_); go_simp; refine hK _ _ (.inr ⟨u0', u1'⟩) ?_; clear hK K
  refine anyT_one 10 (by kernel_rfl) rfl (by rfl) (fun K hK => ?_); go_simp; refine hK _ _ (.inl (by rfl)) ?_; clear hK K
  have R5 : (w4.setCell ⟨C, 1, none⟩ (.slice (some ⟨g, 0, none⟩) 1 cap)).heap[C]? = some (.cells (connR inn (.slice (some ⟨g, 0, none⟩) 1 cap) (.map none) (.pointer none) ticks) 49 (0, 0)) := setCell_at (i := 1) (u := .slice (some ⟨g, 0, none⟩) 1 cap) R4
  have m5 : (w4.setCell ⟨C, 1, none⟩ (.slice (some ⟨g, 0, none⟩) 1 cap)).heap[w.heap.size]? = some (.cells #[.int .i64 1, .int .i64 10, .string ⟨#[100, 99, 61, 122]⟩, .int .i64 0, .bool false, .string ⟨#[]⟩, .int .i64 0, .int .i64 0, .int .i64 0, .int .i64 0, .bool false, .slice none 0 0, .slice none 0 0, .slice none 0 0, .slice none 0 0, .string ⟨#[]⟩, .string ⟨#[]⟩, .bool false, .bool false, .string ⟨#[]⟩, .string ⟨#[]⟩, .string ⟨#[]⟩, .bool false, .int .i64 0, .int .i64 0, .string ⟨#[]⟩, .string ⟨#[]⟩, .slice none 0 0] 32 (0, 0)) := (heap_setCell_other w4 ⟨C, 1, none⟩ w.heap.size _ (by show w.heap.size ≠ C; omega)).trans u1'
  have o5 := set_kept (i := 1) (x := .slice (some ⟨g, 0, none⟩) 1 cap) hown R4 (by decide)
  have b5 : BelR C w.heap.size w (w4.setCell ⟨C, 1, none⟩ (.slice (some ⟨g, 0, none⟩) 1 cap)) := (BelR.of_below b4).set 1 _
  have hs5 : (w4.setCell ⟨C, 1, none⟩ (.slice (some ⟨g, 0, none⟩) 1 cap)).heap.size = w4.heap.size := by simp [World.setCell]
  have HS5 := Lib.hid hs5
  generalize w4.setCell ⟨C, 1, none⟩ (.slice (some ⟨g, 0, none⟩) 1 cap) = w5 at R5 m5 o5 b5 HS5 ⊢
  have hsz5 : C < w5.heap.size := (Array.getElem?_eq_some_iff.1 R5).1
  clear hs5 R4 u0' u1' b4 z hown
  refine anyT_done (by kernel_rfl) ?_ _
  simp only [Exit.then]
  refine ‹∀ (a : Act) (w : World), Code.wp _ _ _ a w → _› _ _ ?_
  have g6 : Below w5.heap.size w5 (w5.alloc (.map #[] 0)) := (Below.refl _ _).alloc (Nat.le_refl _) _
  have R6 := (g6.block _ hsz5).trans R5
  have c2 : w5.cell? ⟨C, 2, none⟩ = some (.map none) := (Lib.cell_of_heap R5 2).trans rfl
  have d2 : (w5.alloc (.map #[] 0)).cell? ⟨C, 2, none⟩ = some (.map none) := (Lib.cell_of_heap R6 2).trans rfl
  have z2 := Lib.frozen_of_heap R6 2
  have x6 : (w5.alloc (.map #[] 0)).heap[w5.heap.size]? = some (.map #[] 0) := alloc_at _ _ _ rfl
  clear x6 g6
  have R6' : (w5.setCell ⟨C, 2, none⟩ (.map (some w5.heap.size))).heap[C]? = some (.cells (connR inn (.slice (some ⟨g, 0, none⟩) 1 cap) (.map (some w5.heap.size)) (.pointer none) ticks) 49 (0, 0)) := setCell_at (i := 2) (u := .map (some w5.heap.size)) R5
  have m6 : (w5.setCell ⟨C, 2, none⟩ (.map (some w5.heap.size))).heap[w.heap.size]? = some (.cells #[.int .i64 1, .int .i64 10, .string ⟨#[100, 99, 61, 122]⟩, .int .i64 0, .bool false, .string ⟨#[]⟩, .int .i64 0, .int .i64 0, .int .i64 0, .int .i64 0, .bool false, .slice none 0 0, .slice none 0 0, .slice none 0 0, .slice none 0 0, .string ⟨#[]⟩, .string ⟨#[]⟩, .bool false, .bool false, .string ⟨#[]⟩, .string ⟨#[]⟩, .string ⟨#[]⟩, .bool false, .int .i64 0, .int .i64 0, .string ⟨#[]⟩, .string ⟨#[]⟩, .slice none 0 0] 32 (0, 0)) := (heap_setCell_other _ ⟨C, 2, none⟩ w.heap.size _ (by show w.heap.size ≠ C; omega)).trans m5
  have o6 := set_kept (i := 2) (x := .map (some w5.heap.size)) o5 R5 (by decide)
  have b6 := b5.set 2 (.map (some w5.heap.size))
  have hs6 : (w5.setCell ⟨C, 2, none⟩ (.map (some w5.heap.size))).heap.size = w5.heap.size := by simp [World.setCell]
  have g7 : Below (w5.setCell ⟨C, 2, none⟩ (.map (some w5.heap.size))).heap.size (w5.setCell ⟨C, 2, none⟩ (.map (some w5.heap.size))) ((w5.setCell ⟨C, 2, none⟩ (.map (some w5.heap.size))).alloc (.map #[] 0)) := (Below.refl _ _).alloc (Nat.le_refl _) _
  have R7 := (g7.block _ (Array.getElem?_eq_some_iff.1 R6').1).trans R6'
  have m7 := (g7.block _ (Array.getElem?_eq_some_iff.1 m6).1).trans m6
  have x7 : ((w5.setCell ⟨C, 2, none⟩ (.map (some w5.heap.size))).alloc (.map #[] 0)).heap[w5.heap.size]? = some (.map #[] 0) := alloc_at _ _ _ hs6.symm
  have o7 := own_below o6 g7
  have b7 := b6.trans (BelR.of_below (R := C) (g7.mono b6.size))
  have HR7 := Lib.hid R7
  have HM7 := Lib.hid m7
  have HX7 := Lib.hid x7
  have HO7 := Lib.hid o7
  have HB7 := Lib.hid b7
  clear R7 m7 x7 o7 b7 R6' m6 o6 b6 hs6 g7
  go_upto_region 5 with fail
  have hr5 := b5.size
  generalize (w5.setCell ⟨C, 2, none⟩ (.map (some w5.heap.size))).alloc (.map #[] 0) = w7 at HR7 HM7 HX7 HO7 HB7 ⊢
  have R7 := HR7.out
  have m7 := HM7.out
  have x7 := HX7.out
  have o7 := HO7.out
  have b7 := HB7.out
  clear HR7 HM7 HX7 HO7 HB7
  have hrC : w5.heap.size ≠ C := by omega
  generalize w5.heap.size = r at R7 x7 o7 b7 hr5 hrC ⊢
  clear c2 d2 z2 R6 R5 m5 o5 b5 HS5 hsz5
  refine wp_region_held (S := fun w' => w'.cell? ⟨C, 2, none⟩ = some (.map (some r)) ∧ w'.cell? ⟨w.heap.size, 0, none⟩ = some (.int .i64 1)) (by kernel_rfl) ?_
  have T : w7.drew.cell? ⟨C, 2, none⟩ = some (.map (some r)) ∧ w7.drew.cell? ⟨w.heap.size, 0, none⟩ = some (.int .i64 1) := ⟨(Lib.cell_of_heap R7 2).trans rfl, (Lib.cell_of_heap m7 0).trans rfl⟩
  have R8 : w7.drew.heap[C]? = some (.cells (connR inn (.slice (some ⟨g, 0, none⟩) 1 cap) (.map (some r)) (.pointer none) ticks) 49 (0, 0)) := R7
  have x8 : w7.drew.heap[r]? = some (.map #[] 0) := x7
  have o8 := own_below o7 ((Below.refl w7.heap.size w7).drew)
  have b8 : BelR C w.heap.size w w7.drew := ⟨b7.os, b7.tape, b7.output, b7.size, b7.block⟩
  change wpAnyH _ _ _ _ _ _ _ _ w7.drew
  clear R7 m7 x7 o7 b7
  generalize w7.drew = w8 at T R8 x8 o8 b8 ⊢
  refine anyH_take 0 (.pointer (some ⟨C, 0, none⟩)) rfl (by kernel_rfl) (by kernel_rfl) (by kernel_rfl) (fun _ _ _ h => h) (by rfl) (fun w' hS => by go_simp) T (fun K hK => ?_); go_simp; refine hK _ _ ?_; clear hK K
  refine anyH_take 1 (.pointer (some ⟨C, 0, none⟩)) rfl (by kernel_rfl) (by kernel_rfl) (by kernel_rfl) (fun _ _ _ h => h) (by rfl) (fun w' hS => by go_simp) T (fun K hK => ?_); go_simp; refine hK _ _ ?_; clear hK K
  refine anyH_take 2 (.pointer (some ⟨C, 2, none⟩)) rfl (by kernel_rfl) (by kernel_rfl) (by kernel_rfl) (fun _ _ _ h => h) (by rfl) (fun w' hS => by go_simp) T (fun K hK => ?_); go_simp; refine hK _ _ ?_; clear hK K
  refine anyH_take 3 (.map (some r)) rfl (by kernel_rfl) (by kernel_rfl) (by kernel_rfl) (fun _ _ _ h => h) (by rfl) (fun w' hS => by obtain ⟨q0, q1⟩ := hS; go_simp) T (fun K hK => ?_); go_simp; refine hK _ _ ?_; clear hK K
  refine anyH_take 4 (.pointer (some ⟨w.heap.size, 0, none⟩)) rfl (by kernel_rfl) (by kernel_rfl) (by kernel_rfl) (fun _ _ _ h => h) (by rfl) (fun w' hS => by go_simp) T (fun K hK => ?_); go_simp; refine hK _ _ ?_; clear hK K
  refine anyH_take 5 (.int .i64 1) rfl (by kernel_rfl) (by kernel_rfl) (by kernel_rfl) (fun _ _ _ h => h) (by rfl) (fun w' hS => by obtain ⟨q0, q1⟩ := hS; go_simp) T (fun K hK => ?_); go_simp; refine hK _ _ ?_; clear hK K
  refine anyH_take 6 (.agg #[]) rfl (by kernel_rfl) (by kernel_rfl) (by kernel_rfl) (fun _ _ _ h => h) (by rfl) (fun w' hS => by go_simp) T (fun K hK => ?_); go_simp; refine hK _ _ ?_; clear hK K
  obtain ⟨w9, hrun, hb9, hsz9, hot9, e1, e2, e3⟩ := run_lay_ex (P := Tryz.prog) w8 42 3 86 r 0 #[] 1 (.agg #[]) (by kernel_rfl) (by kernel_rfl) x8 rfl
  have T9 : w9.cell? ⟨C, 2, none⟩ = some (.map (some r)) ∧ w9.cell? ⟨w.heap.size, 0, none⟩ = some (.int .i64 1) := by
    have hbr : w.heap.size ≠ r := by
      intro h
      have q := T.2
      rw [h] at q
      simp [World.cell?, x8] at q
    exact ⟨(World.cell?_of_block (a := ⟨C, 2, none⟩) (hot9 C (Ne.symm hrC))).trans T.1, (World.cell?_of_block (a := ⟨w.heap.size, 0, none⟩) (hot9 w.heap.size hbr)).trans T.2⟩
  have R9 := (hot9 C (Ne.symm hrC)).trans R8
  have o9 : w9.ownsRow w.heap.size 32 28 (.slice (some ⟨g, 0, none⟩) 1 cap) 1 (#[.int .i64 1, .int .i64 10, .string ⟨#[100, 99, 61, 122]⟩, .int .i64 0, .bool false, .string ⟨#[]⟩, .int .i64 0, .int .i64 0, .int .i64 0, .int .i64 0, .bool false, .slice none 0 0, .slice none 0 0, .slice none 0 0, .slice none 0 0, .string ⟨#[]⟩, .string ⟨#[]⟩, .bool false, .bool false, .string ⟨#[]⟩, .string ⟨#[]⟩, .string ⟨#[]⟩, .bool false, .int .i64 0, .int .i64 0, .string ⟨#[]⟩, .string ⟨#[]⟩, .slice none 0 0] : Array Value).toList := by
    refine ⟨o8.1, ?_⟩
    rcases o8.2 with ⟨h0, _⟩ | ⟨g', cap', cur, hv, hbg, hg, rest⟩
    · cases h0
    · cases hv
      exact .inr ⟨g, cap, cur, rfl, hbg, (hot9 g (fun h => by rw [h, x8] at hg; cases hg)).trans hg, rest⟩
  have b9 : BelR C w.heap.size w w9 := ⟨e1.trans b8.os, e2.trans b8.tape, e3.trans b8.output, by have := b8.size; omega, fun j hj hne => (hot9 j (by omega)).trans (b8.block j hj hne)⟩
  refine anyH_one 7 (by kernel_rfl) rfl (by rfl) (fun K hK => ?_); go_simp; refine hK _ _ T9 ?_; clear hK K
  clear hrun T T9 R8 x8 o8 b8 hsz9 hot9 e1 e2 e3
  refine wpAnyH_done (by kernel_rfl) ?_ _
  simp only [Exit.inBlock]
  have FIN : PR (.returned (.tuple #[])) w9 := by
    rw [HPR.out]
    exact ⟨rfl, ⟨g, cap, r, R9, o9, ⟨0, 1, hb9⟩, hr5⟩, b9⟩
  exact bodyPost_end (results_none rfl _ _ _) rfl FIN
end Go.Proofs.YtaojidcneocelaaGreatDoor
