/- chancerylaw4: alive. -/
import Derived.Test.YtegigcneimjimaaGreatDoorDnC
import Derived.Test.YtegigcneimjimaaGreatDoorDnO
import Derived.Test.YtegigcneimjimaaGreatDoorPlainEsc
namespace Go.Proofs.YtegigcneimjimaaGreatDoor
open Go.RowKit Go.Lib

set_option maxRecDepth 100000 in
set_option maxHeartbeats 4000000 in
theorem alive_any (w : World) (hE : Env w) : Calls Tryz.prog 15 #[] w fun e w' => e = .returned (.bool true) ∧ Below w.heap.size w w' := by
  have k1 := Parse_any aliveS w (by decide) hE
  rw [alive_parse] at k1
  simp only at k1
  go_enter Tryz.func15, Tryz.ntmps15
  go_wp2_with (first | (go_at_call 16; refine Calls.mono (show Calls _ _ _ _ _ from k1) ?_; rintro e w1 ⟨⟨v, rfl, hv⟩, hb1⟩; have k2 := Print_any v aliveN w1 hv (hE.below hb1) (by decide) (by decide) (by decide); rw [alive_print] at k2; simp only at k2; obtain ⟨av, cv, hve, _, _⟩ := hv; subst hve) | (go_at_call 23; refine Calls.mono (show Calls _ _ _ _ _ from k2) ?_; rintro e w2 ⟨rfl, hb2⟩; have k3 := IsType_any [49, 46, 50] w2 (by decide) ((hE.below hb1).below hb2); rw [alive_type] at k3) | (go_at_call 114; refine Calls.mono (show Calls _ _ _ _ _ from k3) ?_; rintro e w3 ⟨rfl, hb3⟩))
  go_ret
  exact ⟨rfl, below_ext (below_ext hb1 hb2) hb3⟩
end Go.Proofs.YtegigcneimjimaaGreatDoor
