/- chancerybook.CopyMessage: what it returns, at a message without filters, selection and controls. -/
import Derived.Test.YtehpdodjncabkaaDoorBkC
import Derived.Test.YtehpdodjncabkaaDoorRngT
namespace Go.Proofs.YtehpdodjncabkaaDoor
open Go.RowKit Go.Lib

theorem copyFilters_nil (w : World) : Calls Tryd.prog 40 #[.slice none 0 0] w fun e w' => e = .returned (.slice none 0 0) ∧ w' = w := by
  obtain ⟨i0, hi0⟩ := Option.isSome_iff_exists.1 (show (Tryd.prog.info? 55).isSome = true by kernel_rfl)
  go_enter Tryd.func40, Tryd.ntmps40
  go_wp2_with (at_builtin; refine wpList_append_voidB rfl (.const (.slice none 0 0)) (.tmp 4) 28 rfl w.heap.size 55 i0 7 Tryd.underlying28 hi0 (.slice none 0 0) 0 [] rfl (World.ownsRow_nil _ _ _ _) 0 rfl ?_)
  go_loopw [3] (fun i wr => i = .int .i64 0 ∧ wr = w) (fun _ _ => 0)
  case atStart => exact ⟨rfl, rfl⟩
  case round =>
    obtain ⟨rfl, rfl⟩ := hrel
    go_wp2_with fail
    go_ret
    exact ⟨rfl, rfl⟩
theorem copyControls_nil (w : World) : Calls Tryd.prog 44 #[.slice none 0 0] w fun e w' => e = .returned (.slice none 0 0) ∧ w' = w := by
  obtain ⟨i0, hi0⟩ := Option.isSome_iff_exists.1 (show (Tryd.prog.info? 57).isSome = true by kernel_rfl)
  go_enter Tryd.func44, Tryd.ntmps44
  go_wp2_with (at_builtin; refine wpList_append_voidB rfl (.const (.slice none 0 0)) (.tmp 3) 30 rfl w.heap.size 57 i0 4 Tryd.underlying30 hi0 (.slice none 0 0) 0 [] rfl (World.ownsRow_nil _ _ _ _) 0 rfl ?_)
  go_ret
  exact ⟨rfl, rfl⟩
theorem copyTexts_nil (w : World) : Calls Tryd.prog 41 #[.slice none 0 0] w fun e w' => e = .returned (.slice none 0 0) ∧ w' = w := by
  obtain ⟨i0, hi0, _, _, _⟩ := info_parts Tryd.infoString
  go_enter Tryd.func41, Tryd.ntmps41
  go_wp2_with (at_builtin; refine wpList_append_voidB rfl (.const (.slice none 0 0)) (.tmp 3) 29 rfl w.heap.size 9 i0 1 Tryd.underlying29 hi0 (.slice none 0 0) 0 [] rfl (World.ownsRow_nil _ _ _ _) 0 rfl ?_)
  go_ret
  exact ⟨rfl, rfl⟩
end Go.Proofs.YtehpdodjncabkaaDoor
