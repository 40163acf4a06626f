/- chanceryref9's SameFilter and SameControls at empty lists. -/
import Derived.Test.YtehpdodjncabkaaDoorRowT
namespace Go.Proofs.YtehpdodjncabkaaDoor
open Go.RowKit Go.Lib
theorem bel_drwN {B : Nat} {a w : World} (h : Below B a w) (n : Nat) : Below B a (w.drewN n) := ⟨h.os, h.tape, h.output, h.size, h.block⟩
theorem SameControls_nil (a : Option Addr) (c : Nat) (w : World) : Calls Tryd.prog 59 #[.slice a 0 c, .slice none 0 0] w fun e w' => e = .returned (.bool true) ∧ ∃ m, w' = w.drewN m := by
  go_enter Tryd.func59, Tryd.ntmps59
  go_wp2_with fail
  go_loopw [5] (fun i wr => i = .int .i64 0 ∧ ∃ m, wr = w.drewN m) (fun _ _ => 0)
  case atStart => exact ⟨rfl, 0, rfl⟩
  case round =>
    obtain ⟨rfl, m, rfl⟩ := hrel
    go_wp2_with fail
    go_ret
    exact ⟨rfl, m, rfl⟩
theorem SameFilter_nil (a : Option Addr) (c : Nat) (w : World) : Calls Tryd.prog 57 #[.slice a 0 c, .slice none 0 0] w fun e w' => e = .returned (.bool true) ∧ ∃ m, w' = w.drewN m := by
  go_enter Tryd.func57, Tryd.ntmps57
  go_wp2_with fail
  go_loopw [5] (fun i wr => i = .int .i64 0 ∧ ∃ m, wr = w.drewN m) (fun _ _ => 0)
  case atStart => exact ⟨rfl, 0, rfl⟩
  case round =>
    obtain ⟨rfl, m, rfl⟩ := hrel
    go_wp2_with fail
    go_ret
    exact ⟨rfl, m, rfl⟩
end Go.Proofs.YtehpdodjncabkaaDoor
