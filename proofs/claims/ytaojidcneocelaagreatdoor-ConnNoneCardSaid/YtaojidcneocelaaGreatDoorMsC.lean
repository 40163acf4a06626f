/- message.reads, Read$1 at a delete. -/
import Derived.Test.YtaojidcneocelaaGreatDoorMsB
namespace Go.Proofs.YtaojidcneocelaaGreatDoor
open Go.RowKit Go.Lib

set_option maxRecDepth 100000 in
set_option maxHeartbeats 2000000 in
theorem read1_delete (n : Nat) (hn : n ≤ 127) (dn : List UInt8) (hd : dn.length ≤ 1000000) (A M : Nat) (_hAM : A ≠ M) (u : Value) (w : World) (hA : w.heap[A]? = some (.cells (elA (delE n dn) u) 76 (0, 0))) (hM : w.heap[M]? = some (.cells (msgD 0 0 []) 32 (0, 0))) (h : KidsAt (fun _ => True) w u (delE n dn).kids) :
    Calls Tryz.prog 47 #[.pointer (some ⟨A, 0, none⟩), .pointer (some ⟨M, 0, none⟩)] w fun e w' => e = .returned (.tuple #[]) ∧ w'.heap[M]? = some (.cells (msgD n 10 dn) 32 (0, 0)) ∧ BelR M w.heap.size w w' := by
  have kt := told_delete n hn dn hd u w h
  go_enter Tryz.func47, Tryz.ntmps47
  go_wp2_with (refine wpList_loadRow rfl 76 (.tmp 0) rfl A 76 _ (0, 0) (by rfl) hA _ Tryz.underlying76 rfl (by rfl) ?_)
  refine Calls.mono (show Calls _ _ _ _ _ from kt) ?_
  rintro e w1 ⟨rfl, hb1⟩
  have m1 := (hb1.block _ (Array.getElem?_eq_some_iff.1 hM).1).trans hM
  have m2 := setRow_heap w1 M _ (msgD n 10 dn) _ _ m1
  have hB : BelR M w.heap.size w (w1.setRow M (msgD n 10 dn)) := ⟨hb1.os, hb1.tape, hb1.output, by simp [World.setRow]; exact hb1.size, fun j hj hne => (setRow_other w1 M j _ hne).trans (hb1.block j hj)⟩
  clear kt hb1
  go_wp2_with (refine wpList_storeRow rfl 32 (.tmp 1) (.tmp 3) rfl M 32 _ (msgD n 10 dn) (by rfl) (by rfl) m1 (by rfl) (by rfl) (by simp [msgD, Value.oneCell']) ?_)
  go_end0
  exact ⟨rfl, m2, hB⟩
set_option maxRecDepth 100000 in
set_option maxHeartbeats 2000000 in
theorem reads_idle (po : Nat) (w : World) :
    CallsD Tryz.prog 77 #[.pointer (some ⟨po, 0, none⟩)] .returning w fun e u' w' => e = .returned (.tuple #[]) ∧ u' = .returning ∧ w' = w := by
  refine callsD_of_wpS Tryz.func77 rfl fun c₀ cs hu => ?_
  apply wpS_seq
  apply wpS_region
  simp [wpOpsS, go_sem, recoverD, hu, Tryz.ntmps77, Exit.thenS]
  refine wpS_of_wp ?_
  simp only [Array.replicate, List.replicate, List.setIfInBounds_toArray, List.set]
  go_wp2
  cases c₀
  simp_all [bodyPostS, results, Tryz.results77]
set_option maxRecDepth 100000 in
set_option maxHeartbeats 2000000 in
theorem reads_delete (n : Nat) (hn : n ≤ 127) (dn : List UInt8) (hd : dn.length ≤ 1000000) (A M : Nat) (hAM : A ≠ M) (u : Value) (w : World) (hA : w.heap[A]? = some (.cells (elA (delE n dn) u) 76 (0, 0))) (hM : w.heap[M]? = some (.cells (msgD 0 0 []) 32 (0, 0))) (h : KidsAt (fun _ => True) w u (delE n dn).kids) :
    Calls Tryz.prog 46 #[.func (.func 47) #[] #[.pointer (some ⟨A, 0, none⟩), .pointer (some ⟨M, 0, none⟩)]] w fun e w' => e = .returned (.bool true) ∧ w'.heap[M]? = some (.cells (msgD n 10 dn) 32 (0, 0)) ∧ BelR M w.heap.size w w' := by
  have hmf : ∀ (fn : Fn) (first cap : Array Value) (w : World), (Instr.makeFunc fn first cap).run Tryz.prog w = .ok (.func fn first cap) w := fun _ _ _ _ => rfl
  obtain ⟨PR, hPR⟩ : ∃ PR : Ending → World → Prop, PR = fun e w' => e = .returned (.bool true) ∧ w'.heap[M]? = some (.cells (msgD n 10 dn) 32 (0, 0)) ∧ BelR M w.heap.size w w' := ⟨_, rfl⟩
  rw [← hPR]
  have HP := Lib.hid hPR
  clear hPR
  have hMl := (Array.getElem?_eq_some_iff.1 hM).1
  have bA : Below w.heap.size w (w.alloc (.cells #[.bool false] 4)) := (Below.refl _ _).alloc (Nat.le_refl _) _
  have oA : (w.alloc (.cells #[.bool false] 4)).heap[w.heap.size]? = some (.cells #[.bool false] 4 (0, 0)) := alloc_at _ _ _ rfl
  have kr := read1_delete n hn dn hd A M hAM u (w.alloc (.cells #[.bool false] 4)) ((bA.block _ (Array.getElem?_eq_some_iff.1 hA).1).trans hA) ((bA.block _ hMl).trans hM) (h.below bA)
  clear hA hM h
  go_enter_defers Tryz.func46, Tryz.ntmps46
  go_wp2_with fail
  generalize w.alloc (.cells #[.bool false] 4) = wA at bA oA kr ⊢
  refine Calls.mono (show Calls _ _ _ _ _ from kr) ?_
  rintro e w1 ⟨rfl, m1, hB1⟩
  have o1 := (hB1.block _ (Array.getElem?_eq_some_iff.1 oA).1 (by omega)).trans oA
  have b1 : BelR M w.heap.size w w1 := (BelR.of_below bA).trans (hB1.mono bA.size)
  have q1 : w1.cell? ⟨w.heap.size, 0, none⟩ = some (.bool false) := (Lib.cell_of_heap o1 0).trans rfl
  have z1 := Lib.frozen_of_heap o1 0
  have m2 : (w1.setCell ⟨w.heap.size, 0, none⟩ (.bool true)).heap[M]? = some (.cells (msgD n 10 dn) 32 (0, 0)) := (Below.heap_setCell w1 ⟨w.heap.size, 0, none⟩ _ M (by show M ≠ w.heap.size; omega)).trans m1
  have o2 : (w1.setCell ⟨w.heap.size, 0, none⟩ (.bool true)).cell? ⟨w.heap.size, 0, none⟩ = some (.bool true) := (Lib.cell_of_heap (show (w1.setCell ⟨w.heap.size, 0, none⟩ (.bool true)).heap[w.heap.size]? = some (.cells #[.bool true] 4 (0, 0)) from setCell_at (i := 0) (u := .bool true) o1) 0).trans rfl
  have b2 : BelR M w.heap.size w (w1.setCell ⟨w.heap.size, 0, none⟩ (.bool true)) := ⟨b1.os, b1.tape, b1.output, by simpa using b1.size, fun j hj hne => (Below.heap_setCell w1 ⟨w.heap.size, 0, none⟩ _ j (by show j ≠ w.heap.size; omega)).trans (b1.block j hj hne)⟩
  have M2 := Lib.hid m2
  have B2 := Lib.hid b2
  have O2 := Lib.hid o2
  clear kr oA hB1 o1 b1 m1 m2 b2 o2
  go_wp2_with fail
  have o2 := O2.out
  clear q1 z1 O2
  generalize w1.setCell ⟨w.heap.size, 0, none⟩ (.bool true) = wF at o2 M2 B2 ⊢
  refine leaves_cons (f := 77) (args := #[.pointer (some ⟨w.heap.size, 0, none⟩)]) (by simp) (by simp [go_sem]) ?_
  refine (reads_idle w.heap.size wF).mono ?_
  rintro e u' w3 ⟨rfl, rfl, hw3⟩
  rw [hw3]
  simp [Leaves, settle, results, Tryz.results46, go_sem, o2]
  rw [HP.out]
  exact ⟨rfl, M2.out, B2.out⟩
end Go.Proofs.YtaojidcneocelaaGreatDoor
