/- chancerylaw18: alive; the law LdifBits. -/
import Derived.Test.YtgdnekhndmijpaaDoorLdifP
namespace Go.Proofs.YtgdnekhndmijpaaDoor
open Go.RowKit Go.Lib

def aliveT : List UInt8 := [50, 48, 50, 52, 48, 49, 48, 49, 48, 48, 48, 48, 48, 48, 90]
def aliveD : List UInt8 := [100, 99, 61, 122]
theorem alive_text : aliveB aliveT aliveD = [116, 105, 109, 101, 58, 32, 50, 48, 50, 52, 48, 49, 48, 49, 48, 48, 48, 48, 48, 48, 90, 10, 119, 104, 111, 58, 58, 32, 10, 100, 110, 58, 32, 100, 99, 61, 122, 10, 99, 104, 97, 110, 103, 101, 116, 121, 112, 101, 58, 32, 100, 101, 108, 101, 116, 101, 10, 10] := by decide +kernel
theorem alive_b64 : b64 [97, 98] = [89, 87, 73, 61] := by decide +kernel
set_option maxRecDepth 100000 in
set_option maxHeartbeats 2000000 in
theorem alive_any (w : World) : Calls Tryd.prog 10 #[] w fun e w' => e = .returned (.bool true) ∧ Below w.heap.size w w' := by
  have k1 := Print_alive w aliveT aliveD (by decide) (by decide)
  rw [alive_text] at k1
  go_enter Tryd.func10, Tryd.ntmps10
  go_wp2_with (first | (go_at_call 12; refine Calls.mono (show Calls _ _ _ _ _ from k1) ?_; rintro e w1 ⟨rfl, hb1⟩; have k2 := Base64_any [97, 98] w1 (by decide); rw [alive_b64] at k2) | (go_at_call 17; refine Calls.mono (show Calls _ _ _ _ _ from k2) ?_; rintro e w2 ⟨rfl, hb2⟩))
  go_ret
  exact ⟨rfl, below_ext hb1 hb2⟩
set_option maxRecDepth 100000 in
set_option maxHeartbeats 2000000 in
theorem LdifBits_any (l : List UInt8) (w : World) (hl : l.length ≤ 140737488351232) :
    Calls Tryd.prog 5 #[.string ⟨l.toArray⟩] w fun e w' => e = .returned (.bool true) ∧ Below w.heap.size w w' := by
  by_cases hbig : 9000 < l.length
  · have k := alive_any w
    go_enter Tryd.func5, Tryd.ntmps5
    go_wp2_with (go_at_call 10; refine k.mono ?_; rintro e w1 ⟨rfl, hb1⟩)
    go_ret
    exact ⟨rfl, hb1⟩
  · have k1 := Base64_any l w (by omega)
    have hlen := b64_length l.length l (Nat.le_refl _)
    have hu := unb_b64 l
    obtain ⟨s, hs⟩ : ∃ s, b64 l = s := ⟨_, rfl⟩
    rw [hs] at k1 hlen hu
    clear hs
    go_enter Tryd.func5, Tryd.ntmps5
    go_wp2_with (first | (go_at_call 17; refine k1.mono ?_; rintro e w1 ⟨rfl, hb1⟩; have k2 := Unbase64_any s w1 (by omega); rw [hu] at k2; simp only [Option.getD_some, Option.isSome_some, if_true] at k2) | (go_at_call 15; refine k2.mono ?_; rintro e w2 ⟨rfl, hb2⟩; have k3 := alive_any w2) | (go_at_call 10; refine k3.mono ?_; rintro e w3 ⟨rfl, hb3⟩))
    go_ret
    exact ⟨rfl, below_ext (below_ext hb1 hb2) hb3⟩
end Go.Proofs.YtgdnekhndmijpaaDoor
