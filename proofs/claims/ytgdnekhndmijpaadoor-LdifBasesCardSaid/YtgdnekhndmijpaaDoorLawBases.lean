/- chancerylaw18: the law LdifBases. -/
import Derived.Test.YtgdnekhndmijpaaDoorLawBits
import Derived.Test.YtgdnekhndmijpaaDoorRefU
namespace Go.Proofs.YtgdnekhndmijpaaDoor
open Go.RowKit Go.Lib

set_option maxRecDepth 100000 in
set_option maxHeartbeats 2000000 in
theorem LdifBases_any (l s : List UInt8) (w : World) (hl : l.length ≤ 140737488351232) (hs : s.length ≤ 140737488351232) :
    Calls Tryd.prog 4 #[.string ⟨l.toArray⟩, .string ⟨s.toArray⟩] w fun e w' => e = .returned (.bool true) ∧ Below w.heap.size w w' := by
  by_cases hbig : 9000 < l.length ∨ 9000 < s.length
  · have k := alive_any w
    by_cases h1 : 9000 < l.length
    · have q1 : decide (9000 < (l.length : Int)) = true := decide_eq_true (by omega)
      go_enter Tryd.func4, Tryd.ntmps4
      go_wp2_with (go_at_call 10; refine k.mono ?_; rintro e w1 ⟨rfl, hb1⟩)
      go_ret
      exact ⟨rfl, hb1⟩
    · have q1 : decide (9000 < (l.length : Int)) = false := decide_eq_false (by omega)
      have q2 : decide (9000 < (s.length : Int)) = true := decide_eq_true (by omega)
      go_enter Tryd.func4, Tryd.ntmps4
      go_wp2_with (go_at_call 10; refine k.mono ?_; rintro e w1 ⟨rfl, hb1⟩)
      go_ret
      exact ⟨rfl, hb1⟩
  · have q1 : decide (9000 < (l.length : Int)) = false := decide_eq_false (by omega)
    have q2 : decide (9000 < (s.length : Int)) = false := decide_eq_false (by omega)
    have k1 := Unbase64_any s w (by omega)
    have k2 := fun W => RUnbase64_any s W (by omega)
    obtain ⟨x, hx⟩ : ∃ x, (unb s).getD [] = x := ⟨_, rfl⟩
    obtain ⟨n, hn⟩ : ∃ n : Int, (if (unb s).isSome then 0 else 110) = n := ⟨_, rfl⟩
    simp only [hx, hn] at k1 k2
    have k4 := fun W => Base64_any l W (by omega)
    have k5 := fun W => RBase64_any l W (by omega)
    obtain ⟨y, hy⟩ : ∃ y, b64 l = y := ⟨_, rfl⟩
    simp only [hy] at k4 k5
    clear hx hn hy
    go_enter Tryd.func4, Tryd.ntmps4
    go_wp2_with (first | (go_at_call 15; refine k1.mono ?_; rintro e w1 ⟨rfl, hb1⟩) | (go_at_call 16; refine (k2 w1).mono ?_; rintro e w2 ⟨rfl, hb2⟩) | (go_at_call 10; refine (alive_any w2).mono ?_; rintro e w3 ⟨rfl, hb3⟩) | (go_at_call 17; refine (k4 w3).mono ?_; rintro e w4 ⟨rfl, hb4⟩) | (go_at_call 18; refine (k5 w4).mono ?_; rintro e w5 ⟨rfl, hb5⟩))
    go_ret
    exact ⟨rfl, below_ext (below_ext (below_ext (below_ext hb1 hb2) hb3) hb4) hb5⟩
end Go.Proofs.YtgdnekhndmijpaaDoor
