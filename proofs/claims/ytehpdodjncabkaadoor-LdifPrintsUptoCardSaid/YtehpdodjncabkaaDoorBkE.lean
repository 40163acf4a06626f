/- chancerybook.CopyMessage: what it returns, at a message without filters, selection and controls. (Written by gencopy.py.) -/
import Derived.Test.YtehpdodjncabkaaDoorRowT
namespace Go.Proofs.YtehpdodjncabkaaDoor
open Go.RowKit Go.Lib

theorem OwnM.below {B : Nat} {w w' : World} {v : Value} {ml : List Md} {us : List Value} (h : OwnM B w v ml us) (hb : Below w.heap.size w w') : OwnM B w' v ml us :=
  ⟨own_below h.1 hb, h.2.1, fun j x u h1 h2 => own_below (h.2.2 j x u h1 h2) hb⟩
theorem OwnM.mono {B B' : Nat} {w : World} {v : Value} {ml : List Md} {us : List Value} (h : OwnM B w v ml us) (hB : B' ≤ B) : OwnM B' w v ml us :=
  ⟨own_mono h.1 hB, h.2.1, fun j x u h1 h2 => own_mono (h.2.2 j x u h1 h2) hB⟩
theorem OwnM.set {B b i : Nat} {w : World} {v x : Value} {ml : List Md} {us : List Value} {cs : Array Value} {t : TypeId} (h : OwnM B w v ml us) (hb : w.heap[b]? = some (.cells cs t (0, 0))) (h1 : 53 ≠ t) (h2 : 9 ≠ t) : OwnM B (w.setCell ⟨b, i, none⟩ x) v ml us :=
  ⟨set_kept h.1 hb h1, h.2.1, fun j y u q1 q2 => set_kept (h.2.2 j y u q1 q2) hb h2⟩
theorem OwnA.below {B : Nat} {w w' : World} {v : Value} {al : List At} {us : List Value} (h : OwnA B w v al us) (hb : Below w.heap.size w w') : OwnA B w' v al us :=
  ⟨own_below h.1 hb, h.2.1, fun j x u h1 h2 => own_below (h.2.2 j x u h1 h2) hb⟩
theorem OwnA.mono {B B' : Nat} {w : World} {v : Value} {al : List At} {us : List Value} (h : OwnA B w v al us) (hB : B' ≤ B) : OwnA B' w v al us :=
  ⟨own_mono h.1 hB, h.2.1, fun j x u h1 h2 => own_mono (h.2.2 j x u h1 h2) hB⟩
theorem OwnA.set {B b i : Nat} {w : World} {v x : Value} {al : List At} {us : List Value} {cs : Array Value} {t : TypeId} (h : OwnA B w v al us) (hb : w.heap[b]? = some (.cells cs t (0, 0))) (h1 : 51 ≠ t) (h2 : 9 ≠ t) : OwnA B (w.setCell ⟨b, i, none⟩ x) v al us :=
  ⟨set_kept h.1 hb h1, h.2.1, fun j y u q1 q2 => set_kept (h.2.2 j y u q1 q2) hb h2⟩
theorem exit_go_dummy : True := trivial
theorem msg_cells {g : Nat} {x0 x1 x2 x3 x4 x5 x6 x7 x8 x9 x10 x11 x12 x13 x14 x15 x16 x17 x18 x19 x20 x21 x22 x23 x24 x25 x26 x27 : Value} {W : World} (h : W.heap[g]? = some (.cells #[x0, x1, x2, x3, x4, x5, x6, x7, x8, x9, x10, x11, x12, x13, x14, x15, x16, x17, x18, x19, x20, x21, x22, x23, x24, x25, x26, x27] 32 (0, 0))) :
    W.cell? ⟨g, 0, none⟩ = some x0 ∧ W.cell? ⟨g, 1, none⟩ = some x1 ∧ W.cell? ⟨g, 2, none⟩ = some x2 ∧ W.cell? ⟨g, 3, none⟩ = some x3 ∧ W.cell? ⟨g, 4, none⟩ = some x4 ∧ W.cell? ⟨g, 5, none⟩ = some x5 ∧ W.cell? ⟨g, 6, none⟩ = some x6 ∧ W.cell? ⟨g, 7, none⟩ = some x7 ∧ W.cell? ⟨g, 8, none⟩ = some x8 ∧ W.cell? ⟨g, 9, none⟩ = some x9 ∧ W.cell? ⟨g, 10, none⟩ = some x10 ∧ W.cell? ⟨g, 11, none⟩ = some x11 ∧ W.cell? ⟨g, 12, none⟩ = some x12 ∧ W.cell? ⟨g, 13, none⟩ = some x13 ∧ W.cell? ⟨g, 14, none⟩ = some x14 ∧ W.cell? ⟨g, 15, none⟩ = some x15 ∧ W.cell? ⟨g, 16, none⟩ = some x16 ∧ W.cell? ⟨g, 17, none⟩ = some x17 ∧ W.cell? ⟨g, 18, none⟩ = some x18 ∧ W.cell? ⟨g, 19, none⟩ = some x19 ∧ W.cell? ⟨g, 20, none⟩ = some x20 ∧ W.cell? ⟨g, 21, none⟩ = some x21 ∧ W.cell? ⟨g, 22, none⟩ = some x22 ∧ W.cell? ⟨g, 23, none⟩ = some x23 ∧ W.cell? ⟨g, 24, none⟩ = some x24 ∧ W.cell? ⟨g, 25, none⟩ = some x25 ∧ W.cell? ⟨g, 26, none⟩ = some x26 ∧ W.cell? ⟨g, 27, none⟩ = some x27 := by
  refine ⟨?_, ?_, ?_, ?_, ?_, ?_, ?_, ?_, ?_, ?_, ?_, ?_, ?_, ?_, ?_, ?_, ?_, ?_, ?_, ?_, ?_, ?_, ?_, ?_, ?_, ?_, ?_, ?_⟩ <;> (rw [Lib.cell_of_heap h]; rfl)
set_option maxRecDepth 100000 in
set_option maxHeartbeats 8000000 in
theorem CopyMessage_any (x0 : Int) (x1 : Int) (x2 : List UInt8) (x3 : Int) (x4 : Bool) (x5 : List UInt8) (x6 : Int) (x7 : Int) (x8 : Int) (x9 : Int) (x10 : Bool) (x15 : List UInt8) (x16 : List UInt8) (x17 : Bool) (x18 : Bool) (x19 : List UInt8) (x20 : List UInt8) (x21 : List UInt8) (x22 : Bool) (x23 : Int) (x24 : Int) (x25 : List UInt8) (x26 : List UInt8) (vA vM : Value) (al : List At) (ml : List Md) (w : World) (hA : AttrsAt w vA al) (hM : ModsAt w vM ml) (hal : al.length ≤ 1000000000) (hav : ∀ x ∈ al, x.2.length ≤ 1000000000) (hml : ml.length ≤ 1000000000) (hmv : ∀ x ∈ ml, x.2.2.length ≤ 1000000000) :
    Calls Tryd.prog 18 #[.agg #[.int .i64 x0, .int .i64 x1, .string ⟨List.toArray x2⟩, .int .i64 x3, .bool x4, .string ⟨List.toArray x5⟩, .int .i64 x6, .int .i64 x7, .int .i64 x8, .int .i64 x9, .bool x10, .slice none 0 0, .slice none 0 0, vM, vA, .string ⟨List.toArray x15⟩, .string ⟨List.toArray x16⟩, .bool x17, .bool x18, .string ⟨List.toArray x19⟩, .string ⟨List.toArray x20⟩, .string ⟨List.toArray x21⟩, .bool x22, .int .i64 x23, .int .i64 x24, .string ⟨List.toArray x25⟩, .string ⟨List.toArray x26⟩, .slice none 0 0]] w fun e w' => (∃ uA uM us um, e = .returned (.agg #[.int .i64 x0, .int .i64 x1, .string ⟨List.toArray x2⟩, .int .i64 x3, .bool x4, .string ⟨List.toArray x5⟩, .int .i64 x6, .int .i64 x7, .int .i64 x8, .int .i64 x9, .bool x10, .slice none 0 0, .slice none 0 0, uM, uA, .string ⟨List.toArray x15⟩, .string ⟨List.toArray x16⟩, .bool x17, .bool x18, .string ⟨List.toArray x19⟩, .string ⟨List.toArray x20⟩, .string ⟨List.toArray x21⟩, .bool x22, .int .i64 x23, .int .i64 x24, .string ⟨List.toArray x25⟩, .string ⟨List.toArray x26⟩, .slice none 0 0]) ∧ OwnA w.heap.size w' uA al us ∧ OwnM w.heap.size w' uM ml um) ∧ Below w.heap.size w w' := by
  have HA := Lib.hid hA
  have HM := Lib.hid hM
  have hb1 : Below w.heap.size w (w.alloc (.cells #[.int .i64 x0, .int .i64 x1, .string ⟨List.toArray x2⟩, .int .i64 x3, .bool x4, .string ⟨List.toArray x5⟩, .int .i64 x6, .int .i64 x7, .int .i64 x8, .int .i64 x9, .bool x10, .slice none 0 0, .slice none 0 0, vM, vA, .string ⟨List.toArray x15⟩, .string ⟨List.toArray x16⟩, .bool x17, .bool x18, .string ⟨List.toArray x19⟩, .string ⟨List.toArray x20⟩, .string ⟨List.toArray x21⟩, .bool x22, .int .i64 x23, .int .i64 x24, .string ⟨List.toArray x25⟩, .string ⟨List.toArray x26⟩, .slice none 0 0] 32)) := (Below.refl _ _).alloc (Nat.le_refl _) _
  obtain ⟨aA, cA, hvA, hcA, _⟩ := id hA
  obtain ⟨aM, cM, hvM, hcM, _⟩ := id hM
  have HVA := Lib.hid hvA
  have HVM := Lib.hid hvM
  clear hA hM hvA hvM
  go_enter Tryd.func18, Tryd.ntmps18
  go_wp2_with fail
  have hk1 : ((w.alloc (.cells #[.int .i64 x0, .int .i64 x1, .string ⟨List.toArray x2⟩, .int .i64 x3, .bool x4, .string ⟨List.toArray x5⟩, .int .i64 x6, .int .i64 x7, .int .i64 x8, .int .i64 x9, .bool x10, .slice none 0 0, .slice none 0 0, vM, vA, .string ⟨List.toArray x15⟩, .string ⟨List.toArray x16⟩, .bool x17, .bool x18, .string ⟨List.toArray x19⟩, .string ⟨List.toArray x20⟩, .string ⟨List.toArray x21⟩, .bool x22, .int .i64 x23, .int .i64 x24, .string ⟨List.toArray x25⟩, .string ⟨List.toArray x26⟩, .slice none 0 0] 32)).alloc (.cells #[.int .i64 0, .int .i64 0, .string ⟨#[]⟩, .int .i64 0, .bool false, .string ⟨#[]⟩, .int .i64 0, .int .i64 0, .int .i64 0, .int .i64 0, .bool false, .slice none 0 0, .slice none 0 0, .slice none 0 0, .slice none 0 0, .string ⟨#[]⟩, .string ⟨#[]⟩, .bool false, .bool false, .string ⟨#[]⟩, .string ⟨#[]⟩, .string ⟨#[]⟩, .bool false, .int .i64 0, .int .i64 0, .string ⟨#[]⟩, .string ⟨#[]⟩, .slice none 0 0] 32)).heap[w.heap.size]? = some (.cells #[.int .i64 x0, .int .i64 x1, .string ⟨List.toArray x2⟩, .int .i64 x3, .bool x4, .string ⟨List.toArray x5⟩, .int .i64 x6, .int .i64 x7, .int .i64 x8, .int .i64 x9, .bool x10, .slice none 0 0, .slice none 0 0, vM, vA, .string ⟨List.toArray x15⟩, .string ⟨List.toArray x16⟩, .bool x17, .bool x18, .string ⟨List.toArray x19⟩, .string ⟨List.toArray x20⟩, .string ⟨List.toArray x21⟩, .bool x22, .int .i64 x23, .int .i64 x24, .string ⟨List.toArray x25⟩, .string ⟨List.toArray x26⟩, .slice none 0 0] 32 (0, 0)) := (Lib.alloc_old _ _ _ (by simp)).trans (alloc_at _ _ _ rfl)
  have hk2 : ((w.alloc (.cells #[.int .i64 x0, .int .i64 x1, .string ⟨List.toArray x2⟩, .int .i64 x3, .bool x4, .string ⟨List.toArray x5⟩, .int .i64 x6, .int .i64 x7, .int .i64 x8, .int .i64 x9, .bool x10, .slice none 0 0, .slice none 0 0, vM, vA, .string ⟨List.toArray x15⟩, .string ⟨List.toArray x16⟩, .bool x17, .bool x18, .string ⟨List.toArray x19⟩, .string ⟨List.toArray x20⟩, .string ⟨List.toArray x21⟩, .bool x22, .int .i64 x23, .int .i64 x24, .string ⟨List.toArray x25⟩, .string ⟨List.toArray x26⟩, .slice none 0 0] 32)).alloc (.cells #[.int .i64 0, .int .i64 0, .string ⟨#[]⟩, .int .i64 0, .bool false, .string ⟨#[]⟩, .int .i64 0, .int .i64 0, .int .i64 0, .int .i64 0, .bool false, .slice none 0 0, .slice none 0 0, .slice none 0 0, .slice none 0 0, .string ⟨#[]⟩, .string ⟨#[]⟩, .bool false, .bool false, .string ⟨#[]⟩, .string ⟨#[]⟩, .string ⟨#[]⟩, .bool false, .int .i64 0, .int .i64 0, .string ⟨#[]⟩, .string ⟨#[]⟩, .slice none 0 0] 32)).heap[w.heap.size + 1]? = some (.cells #[.int .i64 0, .int .i64 0, .string ⟨#[]⟩, .int .i64 0, .bool false, .string ⟨#[]⟩, .int .i64 0, .int .i64 0, .int .i64 0, .int .i64 0, .bool false, .slice none 0 0, .slice none 0 0, .slice none 0 0, .slice none 0 0, .string ⟨#[]⟩, .string ⟨#[]⟩, .bool false, .bool false, .string ⟨#[]⟩, .string ⟨#[]⟩, .string ⟨#[]⟩, .bool false, .int .i64 0, .int .i64 0, .string ⟨#[]⟩, .string ⟨#[]⟩, .slice none 0 0] 32 (0, 0)) := alloc_at _ _ _ (by simp)
  have hb2 : Below w.heap.size w ((w.alloc (.cells #[.int .i64 x0, .int .i64 x1, .string ⟨List.toArray x2⟩, .int .i64 x3, .bool x4, .string ⟨List.toArray x5⟩, .int .i64 x6, .int .i64 x7, .int .i64 x8, .int .i64 x9, .bool x10, .slice none 0 0, .slice none 0 0, vM, vA, .string ⟨List.toArray x15⟩, .string ⟨List.toArray x16⟩, .bool x17, .bool x18, .string ⟨List.toArray x19⟩, .string ⟨List.toArray x20⟩, .string ⟨List.toArray x21⟩, .bool x22, .int .i64 x23, .int .i64 x24, .string ⟨List.toArray x25⟩, .string ⟨List.toArray x26⟩, .slice none 0 0] 32)).alloc (.cells #[.int .i64 0, .int .i64 0, .string ⟨#[]⟩, .int .i64 0, .bool false, .string ⟨#[]⟩, .int .i64 0, .int .i64 0, .int .i64 0, .int .i64 0, .bool false, .slice none 0 0, .slice none 0 0, .slice none 0 0, .slice none 0 0, .string ⟨#[]⟩, .string ⟨#[]⟩, .bool false, .bool false, .string ⟨#[]⟩, .string ⟨#[]⟩, .string ⟨#[]⟩, .bool false, .int .i64 0, .int .i64 0, .string ⟨#[]⟩, .string ⟨#[]⟩, .slice none 0 0] 32)) := hb1.alloc (by simp) _
  generalize (w.alloc (.cells #[.int .i64 x0, .int .i64 x1, .string ⟨List.toArray x2⟩, .int .i64 x3, .bool x4, .string ⟨List.toArray x5⟩, .int .i64 x6, .int .i64 x7, .int .i64 x8, .int .i64 x9, .bool x10, .slice none 0 0, .slice none 0 0, vM, vA, .string ⟨List.toArray x15⟩, .string ⟨List.toArray x16⟩, .bool x17, .bool x18, .string ⟨List.toArray x19⟩, .string ⟨List.toArray x20⟩, .string ⟨List.toArray x21⟩, .bool x22, .int .i64 x23, .int .i64 x24, .string ⟨List.toArray x25⟩, .string ⟨List.toArray x26⟩, .slice none 0 0] 32)).alloc (.cells #[.int .i64 0, .int .i64 0, .string ⟨#[]⟩, .int .i64 0, .bool false, .string ⟨#[]⟩, .int .i64 0, .int .i64 0, .int .i64 0, .int .i64 0, .bool false, .slice none 0 0, .slice none 0 0, .slice none 0 0, .slice none 0 0, .string ⟨#[]⟩, .string ⟨#[]⟩, .bool false, .bool false, .string ⟨#[]⟩, .string ⟨#[]⟩, .string ⟨#[]⟩, .bool false, .int .i64 0, .int .i64 0, .string ⟨#[]⟩, .string ⟨#[]⟩, .slice none 0 0] 32) = w2 at hk1 hk2 hb2 ⊢
  clear hb1
  refine region_anyT (S := fun w' => w'.cell? ⟨w.heap.size, 11, none⟩ = some (.slice none 0 0) ∧ w'.cell? ⟨w.heap.size, 12, none⟩ = some (.slice none 0 0) ∧ w'.cell? ⟨w.heap.size, 13, none⟩ = some (vM) ∧ w'.cell? ⟨w.heap.size, 14, none⟩ = some (vA) ∧ w'.cell? ⟨w.heap.size, 27, none⟩ = some (.slice none 0 0)) (st := 16) (by kernel_rfl) ?_
  have hk1d : w2.drew.heap[w.heap.size]? = some (.cells #[.int .i64 x0, .int .i64 x1, .string ⟨List.toArray x2⟩, .int .i64 x3, .bool x4, .string ⟨List.toArray x5⟩, .int .i64 x6, .int .i64 x7, .int .i64 x8, .int .i64 x9, .bool x10, .slice none 0 0, .slice none 0 0, vM, vA, .string ⟨List.toArray x15⟩, .string ⟨List.toArray x16⟩, .bool x17, .bool x18, .string ⟨List.toArray x19⟩, .string ⟨List.toArray x20⟩, .string ⟨List.toArray x21⟩, .bool x22, .int .i64 x23, .int .i64 x24, .string ⟨List.toArray x25⟩, .string ⟨List.toArray x26⟩, .slice none 0 0] 32 (0, 0)) := hk1
  have hk2d : w2.drew.heap[w.heap.size + 1]? = some (.cells #[.int .i64 0, .int .i64 0, .string ⟨#[]⟩, .int .i64 0, .bool false, .string ⟨#[]⟩, .int .i64 0, .int .i64 0, .int .i64 0, .int .i64 0, .bool false, .slice none 0 0, .slice none 0 0, .slice none 0 0, .slice none 0 0, .string ⟨#[]⟩, .string ⟨#[]⟩, .bool false, .bool false, .string ⟨#[]⟩, .string ⟨#[]⟩, .string ⟨#[]⟩, .bool false, .int .i64 0, .int .i64 0, .string ⟨#[]⟩, .string ⟨#[]⟩, .slice none 0 0] 32 (0, 0)) := hk2
  have hb2d : Below w.heap.size w w2.drew := hb2.drew
  clear hk1 hk2 hb2
  generalize w2.drew = w3 at hk1d hk2d hb2d ⊢
  have hsz3 := hb2d.size
  have s0 := (msg_cells hk1d).2.2.2.2.2.2.2.2.2.2.2.1
  have s1 := (msg_cells hk1d).2.2.2.2.2.2.2.2.2.2.2.2.1
  have s2 := (msg_cells hk1d).2.2.2.2.2.2.2.2.2.2.2.2.2.1
  have s3 := (msg_cells hk1d).2.2.2.2.2.2.2.2.2.2.2.2.2.2.1
  have s4 := (msg_cells hk1d).2.2.2.2.2.2.2.2.2.2.2.2.2.2.2.2.2.2.2.2.2.2.2.2.2.2.2
  refine anyT_free 0 (.pointer (some ⟨w.heap.size, 11, none⟩)) rfl (by decide) (by kernel_rfl) (by kernel_rfl) (by kernel_rfl) (fun _ _ _ h => h) (by rfl) (fun w' => by go_simp) (.inr ⟨s0, s1, s2, s3, s4⟩) (fun K hK => ?_); go_simp; refine hK _ _ ?_; clear hK K
  refine anyT_free 3 (.pointer (some ⟨w.heap.size, 12, none⟩)) rfl (by decide) (by kernel_rfl) (by kernel_rfl) (by kernel_rfl) (fun _ _ _ h => h) (by rfl) (fun w' => by go_simp) (.inr ⟨s0, s1, s2, s3, s4⟩) (fun K hK => ?_); go_simp; refine hK _ _ ?_; clear hK K
  refine anyT_free 6 (.pointer (some ⟨w.heap.size, 13, none⟩)) rfl (by decide) (by kernel_rfl) (by kernel_rfl) (by kernel_rfl) (fun _ _ _ h => h) (by rfl) (fun w' => by go_simp) (.inr ⟨s0, s1, s2, s3, s4⟩) (fun K hK => ?_); go_simp; refine hK _ _ ?_; clear hK K
  refine anyT_free 9 (.pointer (some ⟨w.heap.size, 14, none⟩)) rfl (by decide) (by kernel_rfl) (by kernel_rfl) (by kernel_rfl) (fun _ _ _ h => h) (by rfl) (fun w' => by go_simp) (.inr ⟨s0, s1, s2, s3, s4⟩) (fun K hK => ?_); go_simp; refine hK _ _ ?_; clear hK K
  refine anyT_free 12 (.pointer (some ⟨w.heap.size, 27, none⟩)) rfl (by decide) (by kernel_rfl) (by kernel_rfl) (by kernel_rfl) (fun _ _ _ h => h) (by rfl) (fun w' => by go_simp) (.inr ⟨s0, s1, s2, s3, s4⟩) (fun K hK => ?_); go_simp; refine hK _ _ ?_; clear hK K
  refine anyT_take 1 (.slice none 0 0) rfl (by decide) rfl (by kernel_rfl) (by kernel_rfl) (by kernel_rfl) (by kernel_rfl) (fun _ _ _ h => h) (by rfl) (fun w' hS => by obtain ⟨q0, q1, q2, q3, q4⟩ := hS; go_simp) (by rfl) ⟨s0, s1, s2, s3, s4⟩ (fun K hK => ?_); go_simp; refine hK _ _ ?_; clear hK K
  refine anyT_take 4 (.slice none 0 0) rfl (by decide) rfl (by kernel_rfl) (by kernel_rfl) (by kernel_rfl) (by kernel_rfl) (fun _ _ _ h => h) (by rfl) (fun w' hS => by obtain ⟨q0, q1, q2, q3, q4⟩ := hS; go_simp) (by rfl) ⟨s0, s1, s2, s3, s4⟩ (fun K hK => ?_); go_simp; refine hK _ _ ?_; clear hK K
  refine anyT_take 7 (vM) rfl (by decide) rfl (by kernel_rfl) (by kernel_rfl) (by kernel_rfl) (by kernel_rfl) (fun _ _ _ h => h) (by rfl) (fun w' hS => by obtain ⟨q0, q1, q2, q3, q4⟩ := hS; go_simp) (by rfl) ⟨s0, s1, s2, s3, s4⟩ (fun K hK => ?_); go_simp; refine hK _ _ ?_; clear hK K
  refine anyT_take 10 (vA) rfl (by decide) rfl (by kernel_rfl) (by kernel_rfl) (by kernel_rfl) (by kernel_rfl) (fun _ _ _ h => h) (by rfl) (fun w' hS => by obtain ⟨q0, q1, q2, q3, q4⟩ := hS; go_simp) (by rfl) ⟨s0, s1, s2, s3, s4⟩ (fun K hK => ?_); go_simp; refine hK _ _ ?_; clear hK K
  refine anyT_take 13 (.slice none 0 0) rfl (by decide) rfl (by kernel_rfl) (by kernel_rfl) (by kernel_rfl) (by kernel_rfl) (fun _ _ _ h => h) (by rfl) (fun w' hS => by obtain ⟨q0, q1, q2, q3, q4⟩ := hS; go_simp) (by rfl) ⟨s0, s1, s2, s3, s4⟩ (fun K hK => ?_); go_simp; refine hK _ _ ?_; clear hK K
  refine anyT_one 2 (by kernel_rfl) rfl (by rfl) (fun K hK => ?_); go_simp
  go_wp2_with fail
  refine Calls.mono (show Calls _ _ _ _ _ from copyFilters_nil _) ?_
  rintro e w4 ⟨rfl, rfl⟩
  refine hK _ _ (.inr ⟨s0, s1, s2, s3, s4⟩) ?_; clear hK K
  refine anyT_free 15 (.pointer (some ⟨w.heap.size, 11, none⟩)) rfl (by decide) (by kernel_rfl) (by kernel_rfl) (by kernel_rfl) (fun _ _ _ h => h) (by rfl) (fun w' => by go_simp) (.inr ⟨s0, s1, s2, s3, s4⟩) (fun K hK => ?_); go_simp; refine hK _ _ ?_; clear hK K
  refine anyT_one 5 (by kernel_rfl) rfl (by rfl) (fun K hK => ?_); go_simp
  go_wp2_with fail
  refine Calls.mono (show Calls _ _ _ _ _ from copyTexts_nil _) ?_
  rintro e w5 ⟨rfl, rfl⟩
  refine hK _ _ (.inr ⟨s0, s1, s2, s3, s4⟩) ?_; clear hK K
  have hsz5 := hb2d.size
  have kM := copyMods_any vM ml w5 (HM.out.below hb2d) hml hmv
  refine anyT_one 8 (by kernel_rfl) rfl (by rfl) (fun K hK => ?_); go_simp
  go_wp2_with fail
  refine Calls.mono (show Calls _ _ _ _ _ from kM) ?_
  rintro e w6 ⟨⟨uM, um, rfl, hoM⟩, hb6⟩
  have hk6 := (hb6.block _ (Array.getElem?_eq_some_iff.1 hk1d).1).trans hk1d
  have hk6' := (hb6.block _ (Array.getElem?_eq_some_iff.1 hk2d).1).trans hk2d
  have hbb6 := below_ext hb2d hb6
  clear s0 s1 s2 s3 s4
  have s0 := (msg_cells hk6).2.2.2.2.2.2.2.2.2.2.2.1
  have s1 := (msg_cells hk6).2.2.2.2.2.2.2.2.2.2.2.2.1
  have s2 := (msg_cells hk6).2.2.2.2.2.2.2.2.2.2.2.2.2.1
  have s3 := (msg_cells hk6).2.2.2.2.2.2.2.2.2.2.2.2.2.2.1
  have s4 := (msg_cells hk6).2.2.2.2.2.2.2.2.2.2.2.2.2.2.2.2.2.2.2.2.2.2.2.2.2.2.2
  refine hK _ _ (.inr ⟨s0, s1, s2, s3, s4⟩) ?_; clear hK K
  have hsz6 := hbb6.size
  have kA := copyAttrs_any vA al w6 (HA.out.below hbb6) hal hav
  refine anyT_one 11 (by kernel_rfl) rfl (by rfl) (fun K hK => ?_); go_simp
  go_wp2_with fail
  refine Calls.mono (show Calls _ _ _ _ _ from kA) ?_
  rintro e w7 ⟨⟨uA, us, rfl, hoA⟩, hb7⟩
  have hk7 := (hb7.block _ (Array.getElem?_eq_some_iff.1 hk6).1).trans hk6
  have hk7' := (hb7.block _ (Array.getElem?_eq_some_iff.1 hk6').1).trans hk6'
  have hbb7 := below_ext hbb6 hb7
  clear s0 s1 s2 s3 s4
  have s0 := (msg_cells hk7).2.2.2.2.2.2.2.2.2.2.2.1
  have s1 := (msg_cells hk7).2.2.2.2.2.2.2.2.2.2.2.2.1
  have s2 := (msg_cells hk7).2.2.2.2.2.2.2.2.2.2.2.2.2.1
  have s3 := (msg_cells hk7).2.2.2.2.2.2.2.2.2.2.2.2.2.2.1
  have s4 := (msg_cells hk7).2.2.2.2.2.2.2.2.2.2.2.2.2.2.2.2.2.2.2.2.2.2.2.2.2.2.2
  refine hK _ _ (.inr ⟨s0, s1, s2, s3, s4⟩) ?_; clear hK K
  refine anyT_one 14 (by kernel_rfl) rfl (by rfl) (fun K hK => ?_); go_simp
  go_wp2_with fail
  refine Calls.mono (show Calls _ _ _ _ _ from copyControls_nil _) ?_
  rintro e w8 ⟨rfl, rfl⟩
  refine hK _ _ (.inr ⟨s0, s1, s2, s3, s4⟩) ?_; clear hK K
  obtain ⟨aU, cU, hfU⟩ := own_shape hoM.1
  obtain ⟨aV, cV, hfV⟩ := own_shape hoA.1
  subst hfU hfV
  have hoM8 := hoM.below hb7
  have hoM8' : OwnM w.heap.size w8 (.slice aU ml.length cU) ml um := hoM8.mono hsz5
  have hoA8' : OwnA w.heap.size w8 (.slice aV al.length cV) al us := hoA.mono hsz6
  clear hoM hoM8 hoA s0 s1 s2 s3 s4
  have z := Lib.frozen_of_heap hk7 11
  have s := (msg_cells hk7).2.2.2.2.2.2.2.2.2.2.2.1
  refine anyT_one 16 (by kernel_rfl) rfl (by rfl) (fun K hK => ?_); go_simp; refine hK _ _ (.inl (by rfl)) ?_; clear hK K
  have hq : (w8.setCell ⟨w.heap.size, 11, none⟩ (.slice none 0 0)).heap[w.heap.size]? = some (.cells #[.int .i64 x0, .int .i64 x1, .string ⟨List.toArray x2⟩, .int .i64 x3, .bool x4, .string ⟨List.toArray x5⟩, .int .i64 x6, .int .i64 x7, .int .i64 x8, .int .i64 x9, .bool x10, .slice none 0 0, .slice none 0 0, vM, vA, .string ⟨List.toArray x15⟩, .string ⟨List.toArray x16⟩, .bool x17, .bool x18, .string ⟨List.toArray x19⟩, .string ⟨List.toArray x20⟩, .string ⟨List.toArray x21⟩, .bool x22, .int .i64 x23, .int .i64 x24, .string ⟨List.toArray x25⟩, .string ⟨List.toArray x26⟩, .slice none 0 0] 32 (0, 0)) := setCell_at (i := 11) (u := .slice none 0 0) hk7
  have hq2 := (Below.heap_setCell w8 ⟨w.heap.size, 11, none⟩ (.slice none 0 0) (w.heap.size + 1) (by show w.heap.size + 1 ≠ w.heap.size; omega)).trans hk7'
  have hqb := hbb7.setCell (p := ⟨w.heap.size, 11, none⟩) (Nat.le_refl _) (.slice none 0 0)
  have hqm := hoM8'.set (i := 11) (x := .slice none 0 0) hk7 (by decide) (by decide)
  have hqa := hoA8'.set (i := 11) (x := .slice none 0 0) hk7 (by decide) (by decide)
  clear z s
  generalize w8.setCell ⟨w.heap.size, 11, none⟩ (.slice none 0 0) = w9 at hq hq2 hqb hqm hqa ⊢
  clear hk7 hk7' hbb7 hoM8' hoA8'
  have hkw9 := hq
  have hkrw9 := hq2
  have hbw9 := hqb
  have omw9 := hqm
  have oaw9 := hqa
  clear hq hq2 hqb hqm hqa
  refine anyT_one 17 (by kernel_rfl) rfl (by rfl) (fun K hK => ?_); go_simp; refine hK _ _ (.inl (by rfl)) ?_; clear hK K
  have z := Lib.frozen_of_heap hkw9 12
  have s := (msg_cells hkw9).2.2.2.2.2.2.2.2.2.2.2.2.1
  refine anyT_one 18 (by kernel_rfl) rfl (by rfl) (fun K hK => ?_); go_simp; refine hK _ _ (.inl (by rfl)) ?_; clear hK K
  have hq : (w9.setCell ⟨w.heap.size, 12, none⟩ (.slice none 0 0)).heap[w.heap.size]? = some (.cells #[.int .i64 x0, .int .i64 x1, .string ⟨List.toArray x2⟩, .int .i64 x3, .bool x4, .string ⟨List.toArray x5⟩, .int .i64 x6, .int .i64 x7, .int .i64 x8, .int .i64 x9, .bool x10, .slice none 0 0, .slice none 0 0, vM, vA, .string ⟨List.toArray x15⟩, .string ⟨List.toArray x16⟩, .bool x17, .bool x18, .string ⟨List.toArray x19⟩, .string ⟨List.toArray x20⟩, .string ⟨List.toArray x21⟩, .bool x22, .int .i64 x23, .int .i64 x24, .string ⟨List.toArray x25⟩, .string ⟨List.toArray x26⟩, .slice none 0 0] 32 (0, 0)) := setCell_at (i := 12) (u := .slice none 0 0) hkw9
  have hq2 := (Below.heap_setCell w9 ⟨w.heap.size, 12, none⟩ (.slice none 0 0) (w.heap.size + 1) (by show w.heap.size + 1 ≠ w.heap.size; omega)).trans hkrw9
  have hqb := hbw9.setCell (p := ⟨w.heap.size, 12, none⟩) (Nat.le_refl _) (.slice none 0 0)
  have hqm := omw9.set (i := 12) (x := .slice none 0 0) hkw9 (by decide) (by decide)
  have hqa := oaw9.set (i := 12) (x := .slice none 0 0) hkw9 (by decide) (by decide)
  clear z s
  generalize w9.setCell ⟨w.heap.size, 12, none⟩ (.slice none 0 0) = w10 at hq hq2 hqb hqm hqa ⊢
  clear hkw9 hkrw9 hbw9 omw9 oaw9
  have hkw10 := hq
  have hkrw10 := hq2
  have hbw10 := hqb
  have omw10 := hqm
  have oaw10 := hqa
  clear hq hq2 hqb hqm hqa
  refine anyT_one 19 (by kernel_rfl) rfl (by rfl) (fun K hK => ?_); go_simp; refine hK _ _ (.inl (by rfl)) ?_; clear hK K
  have z := Lib.frozen_of_heap hkw10 13
  have s := (msg_cells hkw10).2.2.2.2.2.2.2.2.2.2.2.2.2.1
  refine anyT_one 20 (by kernel_rfl) rfl (by rfl) (fun K hK => ?_); go_simp; refine hK _ _ (.inl (by rfl)) ?_; clear hK K
  have hq : (w10.setCell ⟨w.heap.size, 13, none⟩ (.slice aU ml.length cU)).heap[w.heap.size]? = some (.cells #[.int .i64 x0, .int .i64 x1, .string ⟨List.toArray x2⟩, .int .i64 x3, .bool x4, .string ⟨List.toArray x5⟩, .int .i64 x6, .int .i64 x7, .int .i64 x8, .int .i64 x9, .bool x10, .slice none 0 0, .slice none 0 0, .slice aU ml.length cU, vA, .string ⟨List.toArray x15⟩, .string ⟨List.toArray x16⟩, .bool x17, .bool x18, .string ⟨List.toArray x19⟩, .string ⟨List.toArray x20⟩, .string ⟨List.toArray x21⟩, .bool x22, .int .i64 x23, .int .i64 x24, .string ⟨List.toArray x25⟩, .string ⟨List.toArray x26⟩, .slice none 0 0] 32 (0, 0)) := setCell_at (i := 13) (u := .slice aU ml.length cU) hkw10
  have hq2 := (Below.heap_setCell w10 ⟨w.heap.size, 13, none⟩ (.slice aU ml.length cU) (w.heap.size + 1) (by show w.heap.size + 1 ≠ w.heap.size; omega)).trans hkrw10
  have hqb := hbw10.setCell (p := ⟨w.heap.size, 13, none⟩) (Nat.le_refl _) (.slice aU ml.length cU)
  have hqm := omw10.set (i := 13) (x := .slice aU ml.length cU) hkw10 (by decide) (by decide)
  have hqa := oaw10.set (i := 13) (x := .slice aU ml.length cU) hkw10 (by decide) (by decide)
  clear z s
  generalize w10.setCell ⟨w.heap.size, 13, none⟩ (.slice aU ml.length cU) = w11 at hq hq2 hqb hqm hqa ⊢
  clear hkw10 hkrw10 hbw10 omw10 oaw10
  have hkw11 := hq
  have hkrw11 := hq2
  have hbw11 := hqb
  have omw11 := hqm
  have oaw11 := hqa
  clear hq hq2 hqb hqm hqa
  refine anyT_one 21 (by kernel_rfl) rfl (by rfl) (fun K hK => ?_); go_simp; refine hK _ _ (.inl (by rfl)) ?_; clear hK K
  have z := Lib.frozen_of_heap hkw11 14
  have s := (msg_cells hkw11).2.2.2.2.2.2.2.2.2.2.2.2.2.2.1
  refine anyT_one 22 (by kernel_rfl) rfl (by rfl) (fun K hK => ?_); go_simp; refine hK _ _ (.inl (by rfl)) ?_; clear hK K
  have hq : (w11.setCell ⟨w.heap.size, 14, none⟩ (.slice aV al.length cV)).heap[w.heap.size]? = some (.cells #[.int .i64 x0, .int .i64 x1, .string ⟨List.toArray x2⟩, .int .i64 x3, .bool x4, .string ⟨List.toArray x5⟩, .int .i64 x6, .int .i64 x7, .int .i64 x8, .int .i64 x9, .bool x10, .slice none 0 0, .slice none 0 0, .slice aU ml.length cU, .slice aV al.length cV, .string ⟨List.toArray x15⟩, .string ⟨List.toArray x16⟩, .bool x17, .bool x18, .string ⟨List.toArray x19⟩, .string ⟨List.toArray x20⟩, .string ⟨List.toArray x21⟩, .bool x22, .int .i64 x23, .int .i64 x24, .string ⟨List.toArray x25⟩, .string ⟨List.toArray x26⟩, .slice none 0 0] 32 (0, 0)) := setCell_at (i := 14) (u := .slice aV al.length cV) hkw11
  have hq2 := (Below.heap_setCell w11 ⟨w.heap.size, 14, none⟩ (.slice aV al.length cV) (w.heap.size + 1) (by show w.heap.size + 1 ≠ w.heap.size; omega)).trans hkrw11
  have hqb := hbw11.setCell (p := ⟨w.heap.size, 14, none⟩) (Nat.le_refl _) (.slice aV al.length cV)
  have hqm := omw11.set (i := 14) (x := .slice aV al.length cV) hkw11 (by decide) (by decide)
  have hqa := oaw11.set (i := 14) (x := .slice aV al.length cV) hkw11 (by decide) (by decide)
  clear z s
  generalize w11.setCell ⟨w.heap.size, 14, none⟩ (.slice aV al.length cV) = w12 at hq hq2 hqb hqm hqa ⊢
  clear hkw11 hkrw11 hbw11 omw11 oaw11
  have hkw12 := hq
  have hkrw12 := hq2
  have hbw12 := hqb
  have omw12 := hqm
  have oaw12 := hqa
  clear hq hq2 hqb hqm hqa
  refine anyT_one 23 (by kernel_rfl) rfl (by rfl) (fun K hK => ?_); go_simp; refine hK _ _ (.inl (by rfl)) ?_; clear hK K
  have z := Lib.frozen_of_heap hkw12 27
  have s := (msg_cells hkw12).2.2.2.2.2.2.2.2.2.2.2.2.2.2.2.2.2.2.2.2.2.2.2.2.2.2.2
  refine anyT_one 24 (by kernel_rfl) rfl (by rfl) (fun K hK => ?_); go_simp; refine hK _ _ (.inl (by rfl)) ?_; clear hK K
  have hq : (w12.setCell ⟨w.heap.size, 27, none⟩ (.slice none 0 0)).heap[w.heap.size]? = some (.cells #[.int .i64 x0, .int .i64 x1, .string ⟨List.toArray x2⟩, .int .i64 x3, .bool x4, .string ⟨List.toArray x5⟩, .int .i64 x6, .int .i64 x7, .int .i64 x8, .int .i64 x9, .bool x10, .slice none 0 0, .slice none 0 0, .slice aU ml.length cU, .slice aV al.length cV, .string ⟨List.toArray x15⟩, .string ⟨List.toArray x16⟩, .bool x17, .bool x18, .string ⟨List.toArray x19⟩, .string ⟨List.toArray x20⟩, .string ⟨List.toArray x21⟩, .bool x22, .int .i64 x23, .int .i64 x24, .string ⟨List.toArray x25⟩, .string ⟨List.toArray x26⟩, .slice none 0 0] 32 (0, 0)) := setCell_at (i := 27) (u := .slice none 0 0) hkw12
  have hq2 := (Below.heap_setCell w12 ⟨w.heap.size, 27, none⟩ (.slice none 0 0) (w.heap.size + 1) (by show w.heap.size + 1 ≠ w.heap.size; omega)).trans hkrw12
  have hqb := hbw12.setCell (p := ⟨w.heap.size, 27, none⟩) (Nat.le_refl _) (.slice none 0 0)
  have hqm := omw12.set (i := 27) (x := .slice none 0 0) hkw12 (by decide) (by decide)
  have hqa := oaw12.set (i := 27) (x := .slice none 0 0) hkw12 (by decide) (by decide)
  clear z s
  generalize w12.setCell ⟨w.heap.size, 27, none⟩ (.slice none 0 0) = w13 at hq hq2 hqb hqm hqa ⊢
  clear hkw12 hkrw12 hbw12 omw12 oaw12
  have hkw13 := hq
  have hkrw13 := hq2
  have hbw13 := hqb
  have omw13 := hqm
  have oaw13 := hqa
  clear hq hq2 hqb hqm hqa
  refine anyT_done (by kernel_rfl) ?_ _
  simp only [Exit.then]
  refine ‹∀ (a : Act) (w : World), Code.wp _ _ _ a w → _› _ _ ?_
  refine wp_seq ?_
  refine wp_region_list ?_
  refine wpList_loadRow rfl 32 (.tmp 1) rfl w.heap.size 32 _ (0, 0) (by rfl) hkw13 _ Tryd.underlying32 rfl (by rfl) ?_
  refine wpList_storeRow rfl 32 (.tmp 2) (.tmp 23) rfl (w.heap.size + 1) 32 _ #[.int .i64 x0, .int .i64 x1, .string ⟨List.toArray x2⟩, .int .i64 x3, .bool x4, .string ⟨List.toArray x5⟩, .int .i64 x6, .int .i64 x7, .int .i64 x8, .int .i64 x9, .bool x10, .slice none 0 0, .slice none 0 0, .slice aU ml.length cU, .slice aV al.length cV, .string ⟨List.toArray x15⟩, .string ⟨List.toArray x16⟩, .bool x17, .bool x18, .string ⟨List.toArray x19⟩, .string ⟨List.toArray x20⟩, .string ⟨List.toArray x21⟩, .bool x22, .int .i64 x23, .int .i64 x24, .string ⟨List.toArray x25⟩, .string ⟨List.toArray x26⟩, .slice none 0 0] (by rfl) (by rfl) hkrw13 (by rfl) rfl (by simp [Value.oneCell']) ?_
  have hq := setRow_heap w13 (w.heap.size + 1) _ #[.int .i64 x0, .int .i64 x1, .string ⟨List.toArray x2⟩, .int .i64 x3, .bool x4, .string ⟨List.toArray x5⟩, .int .i64 x6, .int .i64 x7, .int .i64 x8, .int .i64 x9, .bool x10, .slice none 0 0, .slice none 0 0, .slice aU ml.length cU, .slice aV al.length cV, .string ⟨List.toArray x15⟩, .string ⟨List.toArray x16⟩, .bool x17, .bool x18, .string ⟨List.toArray x19⟩, .string ⟨List.toArray x20⟩, .string ⟨List.toArray x21⟩, .bool x22, .int .i64 x23, .int .i64 x24, .string ⟨List.toArray x25⟩, .string ⟨List.toArray x26⟩, .slice none 0 0] _ _ hkrw13
  have hqb := below_row hbw13 (g := w.heap.size + 1) (by omega) #[.int .i64 x0, .int .i64 x1, .string ⟨List.toArray x2⟩, .int .i64 x3, .bool x4, .string ⟨List.toArray x5⟩, .int .i64 x6, .int .i64 x7, .int .i64 x8, .int .i64 x9, .bool x10, .slice none 0 0, .slice none 0 0, .slice aU ml.length cU, .slice aV al.length cV, .string ⟨List.toArray x15⟩, .string ⟨List.toArray x16⟩, .bool x17, .bool x18, .string ⟨List.toArray x19⟩, .string ⟨List.toArray x20⟩, .string ⟨List.toArray x21⟩, .bool x22, .int .i64 x23, .int .i64 x24, .string ⟨List.toArray x25⟩, .string ⟨List.toArray x26⟩, .slice none 0 0]
  have hqm := omw13.row (x := #[.int .i64 x0, .int .i64 x1, .string ⟨List.toArray x2⟩, .int .i64 x3, .bool x4, .string ⟨List.toArray x5⟩, .int .i64 x6, .int .i64 x7, .int .i64 x8, .int .i64 x9, .bool x10, .slice none 0 0, .slice none 0 0, .slice aU ml.length cU, .slice aV al.length cV, .string ⟨List.toArray x15⟩, .string ⟨List.toArray x16⟩, .bool x17, .bool x18, .string ⟨List.toArray x19⟩, .string ⟨List.toArray x20⟩, .string ⟨List.toArray x21⟩, .bool x22, .int .i64 x23, .int .i64 x24, .string ⟨List.toArray x25⟩, .string ⟨List.toArray x26⟩, .slice none 0 0]) hkrw13 (by decide) (by decide)
  have hqa := oaw13.row (x := #[.int .i64 x0, .int .i64 x1, .string ⟨List.toArray x2⟩, .int .i64 x3, .bool x4, .string ⟨List.toArray x5⟩, .int .i64 x6, .int .i64 x7, .int .i64 x8, .int .i64 x9, .bool x10, .slice none 0 0, .slice none 0 0, .slice aU ml.length cU, .slice aV al.length cV, .string ⟨List.toArray x15⟩, .string ⟨List.toArray x16⟩, .bool x17, .bool x18, .string ⟨List.toArray x19⟩, .string ⟨List.toArray x20⟩, .string ⟨List.toArray x21⟩, .bool x22, .int .i64 x23, .int .i64 x24, .string ⟨List.toArray x25⟩, .string ⟨List.toArray x26⟩, .slice none 0 0]) hkrw13 (by decide) (by decide)
  generalize w13.setRow (w.heap.size + 1) #[.int .i64 x0, .int .i64 x1, .string ⟨List.toArray x2⟩, .int .i64 x3, .bool x4, .string ⟨List.toArray x5⟩, .int .i64 x6, .int .i64 x7, .int .i64 x8, .int .i64 x9, .bool x10, .slice none 0 0, .slice none 0 0, .slice aU ml.length cU, .slice aV al.length cV, .string ⟨List.toArray x15⟩, .string ⟨List.toArray x16⟩, .bool x17, .bool x18, .string ⟨List.toArray x19⟩, .string ⟨List.toArray x20⟩, .string ⟨List.toArray x21⟩, .bool x22, .int .i64 x23, .int .i64 x24, .string ⟨List.toArray x25⟩, .string ⟨List.toArray x26⟩, .slice none 0 0] = wz at hq hqb hqm hqa ⊢
  clear hkw13 hkrw13 hbw13 omw13 oaw13
  go_simp
  go_wp2_with fail
  all_goals refine bodyPost_ret (v := .agg #[.int .i64 x0, .int .i64 x1, .string ⟨List.toArray x2⟩, .int .i64 x3, .bool x4, .string ⟨List.toArray x5⟩, .int .i64 x6, .int .i64 x7, .int .i64 x8, .int .i64 x9, .bool x10, .slice none 0 0, .slice none 0 0, .slice aU ml.length cU, .slice aV al.length cV, .string ⟨List.toArray x15⟩, .string ⟨List.toArray x16⟩, .bool x17, .bool x18, .string ⟨List.toArray x19⟩, .string ⟨List.toArray x20⟩, .string ⟨List.toArray x21⟩, .bool x22, .int .i64 x23, .int .i64 x24, .string ⟨List.toArray x25⟩, .string ⟨List.toArray x26⟩, .slice none 0 0]) ?_ rfl ⟨⟨_, _, _, _, rfl, hqa, hqm⟩, hqb⟩
  all_goals have hr := run_loadVar_row (P := Tryd.prog) wz (w.heap.size + 1) 32 32 #[.int .i64 x0, .int .i64 x1, .string ⟨List.toArray x2⟩, .int .i64 x3, .bool x4, .string ⟨List.toArray x5⟩, .int .i64 x6, .int .i64 x7, .int .i64 x8, .int .i64 x9, .bool x10, .slice none 0 0, .slice none 0 0, .slice aU ml.length cU, .slice aV al.length cV, .string ⟨List.toArray x15⟩, .string ⟨List.toArray x16⟩, .bool x17, .bool x18, .string ⟨List.toArray x19⟩, .string ⟨List.toArray x20⟩, .string ⟨List.toArray x21⟩, .bool x22, .int .i64 x23, .int .i64 x24, .string ⟨List.toArray x25⟩, .string ⟨List.toArray x26⟩, .slice none 0 0] (0, 0) _ hq (show Tryd.prog.underlying 32 = _ from Tryd.underlying32) (by rfl) (by rfl)
  all_goals simp [results, Tryd.f18]
  all_goals exact hr
end Go.Proofs.YtehpdodjncabkaaDoor
