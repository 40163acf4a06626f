/- message: a delete read. (Written by genmsa.py.) -/
import Derived.Test.YtaojidcneocelaaGreatDoorBerK
import Derived.Deep.CutRange
import Derived.Deep.CutBlock
namespace Go.Proofs.YtaojidcneocelaaGreatDoor
open Go.RowKit Go.Lib

/-- A message with a number, an operation and a name alone. -/
def msgD (i op : Int) (dn : List UInt8) : Array Value := #[.int .i64 i, .int .i64 op, .string ⟨dn.toArray⟩, .int .i64 0, .bool false, .string ⟨#[]⟩, .int .i64 0, .int .i64 0, .int .i64 0, .int .i64 0, .bool false, .slice none 0 0, .slice none 0 0, .slice none 0 0, .slice none 0 0, .string ⟨#[]⟩, .string ⟨#[]⟩, .bool false, .bool false, .string ⟨#[]⟩, .string ⟨#[]⟩, .string ⟨#[]⟩, .bool false, .int .i64 0, .int .i64 0, .string ⟨#[]⟩, .string ⟨#[]⟩, .slice none 0 0]
set_option maxRecDepth 100000 in
set_option maxHeartbeats 4000000 in
theorem opOf_delete (B : Nat) (i : Int) (dn : List UInt8) (a : Option Addr) (c : Nat) (w : World) (hm : w.heap[B]? = some (.cells (msgD i 0 []) 32 (0, 0))) :
    Calls Tryz.prog 78 #[.pointer (some ⟨B, 0, none⟩), .agg (elA (.mk 1 10 false dn []) (.slice a 0 c))] w fun e w' => e = .returned (.tuple #[]) ∧ w'.heap[B]? = some (.cells (msgD i 10 dn) 32 (0, 0)) ∧ BelR B w.heap.size w w' := by
  have hBl := (Array.getElem?_eq_some_iff.1 hm).1
  have b1 : Below w.heap.size w ((w.alloc (.cells #[.pointer (some ⟨B, 0, none⟩)] 43)).alloc (.cells #[.int .i64 1, .int .i64 10, .bool false, .string ⟨dn.toArray⟩, .slice a 0 c] 76)) := ((Below.refl _ _).alloc (Nat.le_refl _) _).alloc (by simp) _
  have p1 : ((w.alloc (.cells #[.pointer (some ⟨B, 0, none⟩)] 43)).alloc (.cells #[.int .i64 1, .int .i64 10, .bool false, .string ⟨dn.toArray⟩, .slice a 0 c] 76)).heap[w.heap.size]? = some (.cells #[.pointer (some ⟨B, 0, none⟩)] 43 (0, 0)) := (Lib.alloc_old _ _ _ (by simp)).trans (alloc_at _ _ _ rfl)
  have r1 : ((w.alloc (.cells #[.pointer (some ⟨B, 0, none⟩)] 43)).alloc (.cells #[.int .i64 1, .int .i64 10, .bool false, .string ⟨dn.toArray⟩, .slice a 0 c] 76)).heap[w.heap.size + 1]? = some (.cells #[.int .i64 1, .int .i64 10, .bool false, .string ⟨dn.toArray⟩, .slice a 0 c] 76 (0, 0)) := alloc_at _ _ _ (by simp)
  have m1 := (b1.block B hBl).trans hm
  unfold elA
  simp only [El.cls, El.tag, El.cons, El.bytes]
  clear hm
  go_enter Tryz.func78, Tryz.ntmps78
  refine wp_seq ?_
  refine wp_region_list ?_
  refine wpList_plain rfl fun K hK => ?_
  go_simp
  refine hK _ _ ?_; clear hK K
  refine wpList_plain rfl fun K hK => ?_
  go_simp
  refine hK _ _ ?_; clear hK K
  generalize ((w.alloc (.cells #[.pointer (some ⟨B, 0, none⟩)] 43)).alloc (.cells #[.int .i64 1, .int .i64 10, .bool false, .string ⟨dn.toArray⟩, .slice a 0 c] 76)) = w1 at b1 p1 r1 m1 ⊢
  have qp : w1.cell? ⟨w.heap.size, 0, none⟩ = some (.pointer (some ⟨B, 0, none⟩)) := (Lib.cell_of_heap p1 0).trans rfl
  have qt : w1.cell? ⟨w.heap.size + 1, 1, none⟩ = some (.int .i64 10) := (Lib.cell_of_heap r1 1).trans rfl
  have q1 : w1.cell? ⟨B, 1, none⟩ = some (.int .i64 0) := (Lib.cell_of_heap m1 1).trans rfl
  have z1 := Lib.frozen_of_heap m1 1
  have m2 : (w1.setCell ⟨B, 1, none⟩ (.int .i64 10)).heap[B]? = some (.cells (msgD i 10 []) 32 (0, 0)) := setCell_at (i := 1) (u := .int .i64 10) m1
  have p2 : (w1.setCell ⟨B, 1, none⟩ (.int .i64 10)).heap[w.heap.size]? = some (.cells #[.pointer (some ⟨B, 0, none⟩)] 43 (0, 0)) := (Below.heap_setCell w1 ⟨B, 1, none⟩ (.int .i64 10) w.heap.size (by show w.heap.size ≠ B; omega)).trans p1
  have r2 : (w1.setCell ⟨B, 1, none⟩ (.int .i64 10)).heap[w.heap.size + 1]? = some (.cells #[.int .i64 1, .int .i64 10, .bool false, .string ⟨dn.toArray⟩, .slice a 0 c] 76 (0, 0)) := (Below.heap_setCell w1 ⟨B, 1, none⟩ (.int .i64 10) (w.heap.size + 1) (by show w.heap.size + 1 ≠ B; omega)).trans r1
  have b2 : BelR B w.heap.size w (w1.setCell ⟨B, 1, none⟩ (.int .i64 10)) := (BelR.of_below b1).set 1 _
  have M2 := Lib.hid m2
  have P2 := Lib.hid p2
  have R2 := Lib.hid r2
  have B2 := Lib.hid b2
  clear p1 r1 m1 b1 m2 p2 r2 b2
  go_wp2_with fail
  clear qp qt q1 z1
  generalize w1.setCell ⟨B, 1, none⟩ (.int .i64 10) = w2 at M2 P2 R2 B2 ⊢
  refine wp_region_held (S := fun w' => w'.heap[w.heap.size]? = some (.cells #[.pointer (some ⟨B, 0, none⟩)] 43 (0, 0)) ∧ w'.heap[w.heap.size + 1]? = some (.cells #[.int .i64 1, .int .i64 10, .bool false, .string ⟨dn.toArray⟩, .slice a 0 c] 76 (0, 0)) ∧ w'.cell? ⟨B, 1, none⟩ = some (.int .i64 10)) (by kernel_rfl) ?_
  have T3 : w2.drew.heap[w.heap.size]? = some (.cells #[.pointer (some ⟨B, 0, none⟩)] 43 (0, 0)) ∧ w2.drew.heap[w.heap.size + 1]? = some (.cells #[.int .i64 1, .int .i64 10, .bool false, .string ⟨dn.toArray⟩, .slice a 0 c] 76 (0, 0)) ∧ w2.drew.cell? ⟨B, 1, none⟩ = some (.int .i64 10) := ⟨P2.out, R2.out, (Lib.cell_of_heap M2.out 1).trans rfl⟩
  have M3 : w2.drew.heap[B]? = some (.cells (msgD i 10 []) 32 (0, 0)) := M2.out
  have B3 : BelR B w.heap.size w w2.drew := B2.out.trans (BelR.of_below ((Below.refl _ _).drew))
  change wpAnyH _ _ _ _ _ _ _ _ w2.drew
  clear M2 P2 R2 B2
  generalize w2.drew = w3 at T3 M3 B3 ⊢
  refine anyH_take 0 (.pointer (some ⟨B, 0, none⟩)) rfl (by kernel_rfl) (by kernel_rfl) (by kernel_rfl) (fun _ _ _ h => h) (by rfl) (fun w' hS => by have q := (Lib.cell_of_heap hS.1 0).trans (rfl : _ = some (Value.pointer (some ⟨B, 0, none⟩))); go_simp) T3 (fun K hK => ?_); go_simp; refine hK _ _ ?_; clear hK K
  refine anyH_take 2 (.pointer (some ⟨B, 0, none⟩)) rfl (by kernel_rfl) (by kernel_rfl) (by kernel_rfl) (fun _ _ _ h => h) (by rfl) (fun w' hS => by have q := (Lib.cell_of_heap hS.1 0).trans (rfl : _ = some (Value.pointer (some ⟨B, 0, none⟩))); go_simp) T3 (fun K hK => ?_); go_simp; refine hK _ _ ?_; clear hK K
  refine anyH_take 1 (.agg #[.int .i64 1, .int .i64 10, .bool false, .string ⟨dn.toArray⟩, .slice a 0 c]) rfl (by kernel_rfl) (by kernel_rfl) (by kernel_rfl) (fun _ _ _ h => h) (by rfl) (fun w' hS => by exact exec_loadRow 76 (.tmp 3) rfl (w.heap.size + 1) 76 _ (0, 0) (by rfl) hS.2.1 _ Tryz.underlying76 rfl (by rfl)) T3 (fun K hK => ?_); go_simp; refine hK _ _ ?_; clear hK K
  refine anyH_take 3 (.pointer (some ⟨B, 0, none⟩)) rfl (by kernel_rfl) (by kernel_rfl) (by kernel_rfl) (fun _ _ _ h => h) (by rfl) (fun w' hS => by go_simp) T3 (fun K hK => ?_); go_simp; refine hK _ _ ?_; clear hK K
  refine anyH_take 4 (.pointer (some ⟨B, 1, none⟩)) rfl (by kernel_rfl) (by kernel_rfl) (by kernel_rfl) (fun _ _ _ h => h) (by rfl) (fun w' hS => by go_simp) T3 (fun K hK => ?_); go_simp; refine hK _ _ ?_; clear hK K
  refine anyH_take 5 (.int .i64 10) rfl (by kernel_rfl) (by kernel_rfl) (by kernel_rfl) (fun _ _ _ h => h) (by rfl) (fun w' hS => by have q := hS.2.2; go_simp) T3 (fun K hK => ?_); go_simp; refine hK _ _ ?_; clear hK K
  have kt := text_ok (.mk 1 10 false dn []) (.slice a 0 c) 1 10 w3 ⟨a, c, rfl, Nat.zero_le _, fun h => absurd rfl h⟩ (by simp [isE, El.cls, El.tag, El.cons])
  unfold elA at kt
  simp only [El.cls, El.tag, El.cons, El.bytes] at kt
  refine anyH_one 6 (by kernel_rfl) rfl (by rfl) (fun K hK => ?_); go_simp; go_wp2_with fail
  refine Calls.mono (show Calls _ _ _ _ _ from kt) ?_
  rintro e w4 ⟨rfl, hb4⟩
  have M4 := (hb4.block _ (Array.getElem?_eq_some_iff.1 M3).1).trans M3
  have T4 : w4.heap[w.heap.size]? = some (.cells #[.pointer (some ⟨B, 0, none⟩)] 43 (0, 0)) ∧ w4.heap[w.heap.size + 1]? = some (.cells #[.int .i64 1, .int .i64 10, .bool false, .string ⟨dn.toArray⟩, .slice a 0 c] 76 (0, 0)) ∧ w4.cell? ⟨B, 1, none⟩ = some (.int .i64 10) := ⟨(hb4.block _ (Array.getElem?_eq_some_iff.1 T3.1).1).trans T3.1, (hb4.block _ (Array.getElem?_eq_some_iff.1 T3.2.1).1).trans T3.2.1, (hb4.cell (lt_of_cell T3.2.2)).trans T3.2.2⟩
  have B4 := B3.trans (BelR.of_below (R := B) (hb4.mono B3.size))
  clear kt hb4 M3 T3 B3
  refine hK _ _ T4 ?_; clear hK K
  refine anyH_one 7 (by kernel_rfl) rfl (by rfl) (fun K hK => ?_); go_simp; refine hK _ _ T4 ?_; clear hK K
  refine anyH_one 8 (by kernel_rfl) rfl (by rfl) (fun K hK => ?_); go_simp; refine hK _ _ T4 ?_; clear hK K
  have s2 : w4.cell? ⟨B, 2, none⟩ = some (.string ⟨#[]⟩) := (Lib.cell_of_heap M4 2).trans rfl
  have z2 := Lib.frozen_of_heap M4 2
  have M5 : (w4.setCell ⟨B, 2, none⟩ (.string ⟨dn.toArray⟩)).heap[B]? = some (.cells (msgD i 10 dn) 32 (0, 0)) := setCell_at (i := 2) (u := .string ⟨dn.toArray⟩) M4
  have T5 : (w4.setCell ⟨B, 2, none⟩ (.string ⟨dn.toArray⟩)).heap[w.heap.size]? = some (.cells #[.pointer (some ⟨B, 0, none⟩)] 43 (0, 0)) ∧ (w4.setCell ⟨B, 2, none⟩ (.string ⟨dn.toArray⟩)).heap[w.heap.size + 1]? = some (.cells #[.int .i64 1, .int .i64 10, .bool false, .string ⟨dn.toArray⟩, .slice a 0 c] 76 (0, 0)) ∧ (w4.setCell ⟨B, 2, none⟩ (.string ⟨dn.toArray⟩)).cell? ⟨B, 1, none⟩ = some (.int .i64 10) :=
    ⟨(Below.heap_setCell w4 ⟨B, 2, none⟩ _ w.heap.size (by show w.heap.size ≠ B; omega)).trans T4.1, (Below.heap_setCell w4 ⟨B, 2, none⟩ _ (w.heap.size + 1) (by show w.heap.size + 1 ≠ B; omega)).trans T4.2.1, (Lib.cell_of_heap M5 1).trans rfl⟩
  have B5 := B4.set 2 (.string ⟨dn.toArray⟩)
  refine anyH_one 9 (by kernel_rfl) rfl (by rfl) (fun K hK => ?_); go_simp; refine hK _ _ T5 ?_; clear hK K
  refine wpAnyH_done (by kernel_rfl) ?_ _
  simp only [Exit.then]
  refine ‹∀ (a : Act) (w : World), Code.wp _ _ _ a w → _› _ _ ?_
  clear s2 z2
  generalize w4.setCell ⟨B, 2, none⟩ (.string ⟨dn.toArray⟩) = w5 at M5 B5 T5 ⊢
  go_wp2_with fail
  refine bodyPost_ret (v := .tuple #[]) ?_ rfl ⟨rfl, M5, B5⟩
  simp [results, Tryz.f78]
end Go.Proofs.YtaojidcneocelaaGreatDoor
