/- ldif.right: which records can be written (the tests over the fields). -/
import Derived.Deep.CutBlock
import Derived.Deep.DeepCutAuto
import Derived.Deep.CutRange
import Derived.Test.YtehpdodjncabkaaDoorDnTL
namespace Go.Proofs.YtehpdodjncabkaaDoor
open Go.RowKit Go.Lib

set_option maxRecDepth 100000 in
set_option maxHeartbeats 2000000 in
theorem right_kind (kd : Int) (sT sW sD sR sS : List UInt8) (aA aM : _) (nA cA nM cM : Nat) (dO hS : Bool) (w : World) (h : kd < 0 ∨ 3 < kd) :
    Calls Tryd.prog 20 #[.agg #[.string ⟨sT.toArray⟩, .string ⟨sW.toArray⟩, .string ⟨sD.toArray⟩, .int .i64 kd, .slice aA nA cA, .slice aM nM cM, .string ⟨sR.toArray⟩, .string ⟨sS.toArray⟩, .bool dO, .bool hS]] w fun e w' => e = .returned (.bool false) ∧ Below w.heap.size w w' := by
  rcases h with h | h
  · have d1 : decide (kd < 0) = true := decide_eq_true h
    go_enter Tryd.func20, Tryd.ntmps20
    go_wp2_with fail
    go_ret
    exact ⟨rfl, by first | exact Below.refl _ _ | exact Below.drew ((Below.refl _ _).alloc (Nat.le_refl _) _) | exact Below.drew (Below.drew ((Below.refl _ _).alloc (Nat.le_refl _) _)) | exact (Below.refl _ _).alloc (Nat.le_refl _) _⟩
  · have d1 : decide (kd < 0) = false := decide_eq_false (by omega)
    have d2 : decide (3 < kd) = true := decide_eq_true h
    go_enter Tryd.func20, Tryd.ntmps20
    go_wp2_with fail
    go_ret
    exact ⟨rfl, by first | exact Below.refl _ _ | exact Below.drew ((Below.refl _ _).alloc (Nat.le_refl _) _) | exact Below.drew (Below.drew ((Below.refl _ _).alloc (Nat.le_refl _) _)) | exact (Below.refl _ _).alloc (Nat.le_refl _) _⟩
set_option maxRecDepth 100000 in
set_option maxHeartbeats 4000000 in
theorem right_three (kd : Int) (sT sW sD sR sS : List UInt8) (aA aM : _) (nA cA nM cM : Nat) (dO hS : Bool) (w : World) (h0 : 0 ≤ kd) (h3 : kd ≤ 3)
    (h : kd ≠ 0 ∧ 0 < nA ∨ kd ≠ 2 ∧ 0 < nM ∨ sS ≠ [] ∧ hS = false) :
    Calls Tryd.prog 20 #[.agg #[.string ⟨sT.toArray⟩, .string ⟨sW.toArray⟩, .string ⟨sD.toArray⟩, .int .i64 kd, .slice aA nA cA, .slice aM nM cM, .string ⟨sR.toArray⟩, .string ⟨sS.toArray⟩, .bool dO, .bool hS]] w fun e w' => e = .returned (.bool false) ∧ Below w.heap.size w w' := by
  have d1 : decide (kd < 0) = false := decide_eq_false (by omega)
  have d2 : decide (3 < kd) = false := decide_eq_false (by omega)
  have HH := Lib.hid h
  clear h
  go_enter Tryd.func20, Tryd.ntmps20
  go_upto_region 5 with fail
  all_goals
    first
    | go_ret
      exact ⟨rfl, (Below.refl _ _).alloc (Nat.le_refl _) _⟩
    | exfalso
      have h := HH.out
      clear HH
      rcases h with ⟨ha, hb⟩ | ⟨ha, hb⟩ | ⟨ha, hb⟩
      all_goals first | omega | simp_all
set_option maxRecDepth 100000 in
set_option maxHeartbeats 4000000 in
theorem right_five (kd : Int) (sT sW sD sR sS : List UInt8) (aA aM : _) (nA cA nM cM : Nat) (dO hS : Bool) (w : World) (h0 : 0 ≤ kd) (h3 : kd ≤ 3)
    (h : kd ≠ 3 ∧ (sR ≠ [] ∨ dO = true ∨ hS = true)) :
    Calls Tryd.prog 20 #[.agg #[.string ⟨sT.toArray⟩, .string ⟨sW.toArray⟩, .string ⟨sD.toArray⟩, .int .i64 kd, .slice aA nA cA, .slice aM nM cM, .string ⟨sR.toArray⟩, .string ⟨sS.toArray⟩, .bool dO, .bool hS]] w fun e w' => e = .returned (.bool false) ∧ Below w.heap.size w w' := by
  have d1 : decide (kd < 0) = false := decide_eq_false (by omega)
  have d2 : decide (3 < kd) = false := decide_eq_false (by omega)
  have HH := Lib.hid h
  clear h
  go_enter Tryd.func20, Tryd.ntmps20
  go_upto_region 5 with fail
  all_goals
    first
    | go_ret
      exact ⟨rfl, (Below.refl _ _).alloc (Nat.le_refl _) _⟩
    | go_upto_region 7 with fail
  all_goals
    first
    | go_ret
      exact ⟨rfl, (Below.refl _ _).alloc (Nat.le_refl _) _⟩
    | exfalso
      have h := HH.out
      clear HH
      obtain ⟨ha, hb | hb | hb⟩ := h
      all_goals first | omega | simp_all
end Go.Proofs.YtehpdodjncabkaaDoor
