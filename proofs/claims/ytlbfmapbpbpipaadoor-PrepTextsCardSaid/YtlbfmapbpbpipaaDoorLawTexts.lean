/- The law PrepTexts: walked. -/
import Derived.Test.YtlbfmapbpbpipaaDoorRefThreeD
namespace Go.Proofs.YtlbfmapbpbpipaaDoor
open Go.RowKit Go.Lib

set_option maxHeartbeats 1000000 in
theorem PrepTexts_any (l : List UInt8) (fold : Bool) (w : World) (hl : l.length ≤ 140737488351232) (hE : Env w) :
    Calls Tryd.prog 4 #[.string ⟨l.toArray⟩, .bool fold] w fun e w' => e = .returned (.bool true) ∧ Below w.heap.size w w' := by
  have HE := Lib.hid hE
  clear hE
  by_cases h3 : 70000 < l.length
  · have h3z : (70000 : Int) < (l.length : Int) := by omega
    go_enter Tryd.func4, Tryd.ntmps4
    go_wp2_with fail
    refine (alive_any w HE.out).mono ?_
    rintro e w1 ⟨rfl, hb1⟩
    go_wp2_with fail
    go_ret
    exact ⟨rfl, hb1⟩
  · have h3z : (l.length : Int) ≤ 70000 := by omega
    have c1 := Prepare_l l fold w (by omega) HE.out
    have c2 := fun w => RefPrepare_any l fold w (by omega)
    rw [← ref_prep] at c1
    obtain ⟨P, hP⟩ : ∃ P, refPrep l fold = P := ⟨_, rfl⟩
    rw [hP] at c1
    simp only [hP] at c2
    have C2 := Lib.hid c2
    clear hP c2
    cases P with
    | none =>
      simp only [strOk] at c1 C2
      go_enter Tryd.func4, Tryd.ntmps4
      go_wp2_with fail
      refine c1.mono ?_
      rintro e w1 ⟨rfl, hb1⟩
      go_wp2_with fail
      refine (C2.out _).mono ?_
      rintro e w2 ⟨rfl, hb2⟩
      have hb := below_ext hb1 hb2
      go_wp2_with fail
      refine (alive_any _ (HE.out.below hb)).mono ?_
      rintro e w3 ⟨rfl, hb3⟩
      go_wp2_with fail
      go_ret
      exact ⟨rfl, below_ext hb hb3⟩
    | some a =>
      simp only [strOk] at c1 C2
      go_enter Tryd.func4, Tryd.ntmps4
      go_wp2_with fail
      refine c1.mono ?_
      rintro e w1 ⟨rfl, hb1⟩
      go_wp2_with fail
      refine (C2.out _).mono ?_
      rintro e w2 ⟨rfl, hb2⟩
      have hb := below_ext hb1 hb2
      go_wp2_with fail
      refine (alive_any _ (HE.out.below hb)).mono ?_
      rintro e w3 ⟨rfl, hb3⟩
      go_wp2_with fail
      go_ret
      exact ⟨by simp, below_ext hb hb3⟩
end Go.Proofs.YtlbfmapbpbpipaaDoor
