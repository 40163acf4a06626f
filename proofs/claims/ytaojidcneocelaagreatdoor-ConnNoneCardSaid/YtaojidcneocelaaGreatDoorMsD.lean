/- message.isOp, inRange. (Written by genmsd.py.) -/
import Derived.Test.YtaojidcneocelaaGreatDoorMsC
namespace Go.Proofs.YtaojidcneocelaaGreatDoor
open Go.RowKit Go.Lib

set_option maxRecDepth 100000 in
theorem isOp_any (op : Int) (b : Nat) (zs : List Int) (w : World) (hl : zs.length ≤ 1000) (hc : ∀ j, j < zs.length → w.cell? ⟨b, 0 + j, none⟩ = some (.int .i64 (zs.getD j 0))) :
    Calls Tryz.prog 49 #[.int .i64 op, .slice (some ⟨b, 0, none⟩) zs.length zs.length] w fun e w' => e = .returned (.bool (zs.contains op)) ∧ w' = w := by
  have k := Tryz.slices_Contains_int b 0 zs.length zs.length zs op w (Nat.le_refl _) (by omega) hc
  rw [List.take_of_length_le (Nat.le_refl _)] at k
  obtain ⟨R, hR⟩ : ∃ R, zs.contains op = R := ⟨_, rfl⟩
  rw [hR] at k ⊢
  clear hR hc
  go_enter Tryz.func49, Tryz.ntmps49
  go_wp2_with fail
  refine Calls.mono (show Calls _ _ _ _ _ from k) ?_
  rintro e w1 ⟨rfl, rfl⟩
  go_wp2_with fail
  go_ret
  exact ⟨rfl, rfl⟩
set_option maxRecDepth 100000 in
theorem inRange_ok (n most : Int) (h0 : 0 ≤ n) (h1 : n ≤ most) (w : World) : Calls Tryz.prog 58 #[.int .i64 n, .int .i64 most] w fun e w' => e = .returned (.bool true) ∧ w' = w := by
  have g1 : decide ((0 : Int) ≤ n) = true := decide_eq_true h0
  have g2 : decide (n ≤ most) = true := decide_eq_true h1
  go_enter Tryz.func58, Tryz.ntmps58
  go_wp2_with fail
  go_ret
  exact ⟨rfl, rfl⟩
end Go.Proofs.YtaojidcneocelaaGreatDoor
