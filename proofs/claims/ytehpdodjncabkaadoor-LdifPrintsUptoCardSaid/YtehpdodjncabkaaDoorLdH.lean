/- ldif.right: records without lists that can be written. -/
import Derived.Test.YtehpdodjncabkaaDoorDnTL
namespace Go.Proofs.YtehpdodjncabkaaDoor
open Go.RowKit Go.Lib

set_option maxRecDepth 100000 in
set_option maxHeartbeats 2000000 in
theorem right_gone (sT sW sD : List UInt8) (aA aM : _) (cA cM : Nat) (w : World) :
    Calls Tryd.prog 20 #[.agg #[.string ⟨sT.toArray⟩, .string ⟨sW.toArray⟩, .string ⟨sD.toArray⟩, .int .i64 1, .slice aA 0 cA, .slice aM 0 cM, .string ⟨#[]⟩, .string ⟨#[]⟩, .bool false, .bool false]] w fun e w' => e = .returned (.bool true) ∧ Below w.heap.size w w' := by
  go_enter Tryd.func20, Tryd.ntmps20
  go_wp2_with fail
  go_loop [64] (fun i => i = .int .i64 0) (fun _ => 0)
  case atStart => rfl
  case round =>
    subst hrel
    go_wp2_with fail
    go_loop [99] (fun i => i = .int .i64 0) (fun _ => 0)
    case atStart => rfl
    case round =>
      subst hrel
      go_wp2_with fail
      go_ret
      exact ⟨rfl, (Below.refl _ _).alloc (Nat.le_refl _) _⟩
set_option maxRecDepth 100000 in
set_option maxHeartbeats 2000000 in
theorem right_moved (sT sW sD sR : List UInt8) (aA aM : _) (cA cM : Nat) (dO : Bool) (w : World) :
    Calls Tryd.prog 20 #[.agg #[.string ⟨sT.toArray⟩, .string ⟨sW.toArray⟩, .string ⟨sD.toArray⟩, .int .i64 3, .slice aA 0 cA, .slice aM 0 cM, .string ⟨sR.toArray⟩, .string ⟨#[]⟩, .bool dO, .bool false]] w fun e w' => e = .returned (.bool true) ∧ Below w.heap.size w w' := by
  go_enter Tryd.func20, Tryd.ntmps20
  go_wp2_with fail
  go_loop [64] (fun i => i = .int .i64 0) (fun _ => 0)
  case atStart => rfl
  case round =>
    subst hrel
    go_wp2_with fail
    go_loop [99] (fun i => i = .int .i64 0) (fun _ => 0)
    case atStart => rfl
    case round =>
      subst hrel
      go_wp2_with fail
      go_ret
      exact ⟨rfl, (Below.refl _ _).alloc (Nat.le_refl _) _⟩
set_option maxRecDepth 100000 in
set_option maxHeartbeats 2000000 in
theorem right_under (sT sW sD sR : List UInt8) (x : UInt8) (sS : List UInt8) (aA aM : _) (cA cM : Nat) (dO : Bool) (w : World) :
    Calls Tryd.prog 20 #[.agg #[.string ⟨sT.toArray⟩, .string ⟨sW.toArray⟩, .string ⟨sD.toArray⟩, .int .i64 3, .slice aA 0 cA, .slice aM 0 cM, .string ⟨sR.toArray⟩, .string ⟨(x :: sS).toArray⟩, .bool dO, .bool true]] w fun e w' => e = .returned (.bool true) ∧ Below w.heap.size w w' := by
  go_enter Tryd.func20, Tryd.ntmps20
  go_wp2_with fail
  go_loop [64] (fun i => i = .int .i64 0) (fun _ => 0)
  case atStart => rfl
  case round =>
    subst hrel
    go_wp2_with fail
    go_loop [99] (fun i => i = .int .i64 0) (fun _ => 0)
    case atStart => rfl
    case round =>
      subst hrel
      go_wp2_with fail
      go_ret
      exact ⟨rfl, (Below.refl _ _).alloc (Nat.le_refl _) _⟩
set_option maxRecDepth 100000 in
set_option maxHeartbeats 2000000 in
theorem right_beneath (sT sW sD sR : List UInt8) (aA aM : _) (cA cM : Nat) (dO : Bool) (w : World) :
    Calls Tryd.prog 20 #[.agg #[.string ⟨sT.toArray⟩, .string ⟨sW.toArray⟩, .string ⟨sD.toArray⟩, .int .i64 3, .slice aA 0 cA, .slice aM 0 cM, .string ⟨sR.toArray⟩, .string ⟨#[]⟩, .bool dO, .bool true]] w fun e w' => e = .returned (.bool true) ∧ Below w.heap.size w w' := by
  go_enter Tryd.func20, Tryd.ntmps20
  go_wp2_with fail
  go_loop [64] (fun i => i = .int .i64 0) (fun _ => 0)
  case atStart => rfl
  case round =>
    subst hrel
    go_wp2_with fail
    go_loop [99] (fun i => i = .int .i64 0) (fun _ => 0)
    case atStart => rfl
    case round =>
      subst hrel
      go_wp2_with fail
      go_ret
      exact ⟨rfl, (Below.refl _ _).alloc (Nat.le_refl _) _⟩
end Go.Proofs.YtehpdodjncabkaaDoor
