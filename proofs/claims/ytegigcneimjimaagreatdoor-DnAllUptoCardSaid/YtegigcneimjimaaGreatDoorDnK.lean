/- dn.onePart: what it returns, of a text whose first part can be read. -/
import Derived.Test.YtegigcneimjimaaGreatDoorDnC
namespace Go.Proofs.YtegigcneimjimaaGreatDoor
open Go.RowKit Go.Lib

set_option maxRecDepth 100000 in
set_option maxHeartbeats 4000000 in
theorem onePart_any (s u : List UInt8) (p : List Av) (w : World) (hs : s.length ≤ 1099511627776) (hE : Env w) (hp : rPart (s.length + 1) s [] = some (p, u)) :
    Calls Tryz.prog 122 #[.string ⟨s.toArray⟩] w fun e w' => e = .returned (.bool (decide (u = []))) ∧ Below w.heap.size w w' := by
  have hbA := (Below.refl w.heap.size w).alloc (Nat.le_refl _) (.cells #[.string ⟨s.toArray⟩, .int .i64 0] 138)
  have hRA : RAt (w.alloc (.cells #[.string ⟨s.toArray⟩, .int .i64 0] 138)) w.heap.size s 0 := alloc_at _ _ _ rfl
  have kp := part_any w.heap.size s s (w.alloc (.cells #[.string ⟨s.toArray⟩, .int .i64 0] 138)) ⟨0, Nat.zero_le _, rfl, hRA⟩ hs ⟨w, hE, Nat.le_refl _, hbA⟩
  rw [hp] at kp
  obtain ⟨q, hq⟩ : ∃ q, decide (u = []) = q := ⟨_, rfl⟩
  rw [hq]
  go_enter Tryz.func122, Tryz.ntmps122
  go_wp2_with (first | (go_at_call 198; refine Calls.mono (show Calls _ _ _ _ _ from kp) ?_; rintro e w1 ⟨⟨⟨v, rfl, hv⟩, k, hk, hdr, hR⟩, hk1⟩; have ke := ended_any w.heap.size k s w1 hR; have hke : decide (k = s.length) = q := (by rw [← hq]; refine decide_eq_decide.2 ⟨fun e => (by rw [← hdr, e]; simp), fun e => (by rw [e] at hdr; have := congrArg List.length hdr; simp at this; omega)⟩); rw [hke] at ke) | (go_at_call 200; refine Calls.mono (show Calls _ _ _ _ _ from ke) ?_; rintro e w2 ⟨rfl, m, rfl⟩))
  go_ret
  exact ⟨rfl, Below.drewN (hbA.trans (hk1.below (Nat.le_refl _) (by simp))) _⟩
end Go.Proofs.YtegigcneimjimaaGreatDoor
