/- The law PrepMaps: walked. -/
import Derived.Test.YtlbfmapbpbpipaaDoorRefThree
namespace Go.Proofs.YtlbfmapbpbpipaaDoor
open Go.RowKit Go.Lib

theorem maps_stays (r : Int) : mapStays r = (mapWhat r == 0) := by
  unfold mapStays mapWhat
  cases isBlankB r <;> cases goesB r <;> cases isRefusedB r <;> rfl
theorem maps_bad (r : Int) : mapBad r = (mapWhat r == 2) := by
  unfold mapBad mapWhat
  cases isBlankB r <;> cases goesB r <;> cases isRefusedB r <;> rfl

set_option maxHeartbeats 1000000 in
theorem PrepMaps_any (r : Int) (w : World) (hE : Env w) :
    Calls Tryd.prog 3 #[.int .i32 r] w fun e w' => e = .returned (.bool true) ∧ Below w.heap.size w w' := by
  have c1 := Map_any r w
  have c2 := RefMap_any r w
  have c3 := fun w => alive_any w
  have c4 := fun w => Fold_any r w
  have c5 := fun w => RefFold_any r w
  rw [maps_stays, maps_bad] at c1
  obtain ⟨m, hm⟩ : ∃ m, mapR r = m := ⟨_, rfl⟩
  obtain ⟨t, ht⟩ : ∃ t, mapWhat r = t := ⟨_, rfl⟩
  obtain ⟨f, hf⟩ : ∃ f, foldR r = f := ⟨_, rfl⟩
  rw [hm, ht] at c1 c2
  simp only [hf] at c4 c5
  clear hm ht hf
  have HE := Lib.hid hE
  have C3 := Lib.hid c3
  have C4 := Lib.hid c4
  have C5 := Lib.hid c5
  clear hE c3 c4 c5
  go_enter Tryd.func3, Tryd.ntmps3
  go_wp2_with fail
  refine c1.mono ?_
  rintro e w' ⟨rfl, rfl⟩
  go_wp2_with fail
  refine c2.mono ?_
  rintro e w1 ⟨rfl, hb1⟩
  go_wp2_with fail
  refine (C3.out _ (HE.out.below hb1)).mono ?_
  rintro e w2 ⟨rfl, hb2⟩
  go_wp2_with fail
  refine (C4.out _).mono ?_
  rintro e w' ⟨rfl, rfl⟩
  go_wp2_with fail
  refine (C5.out _).mono ?_
  rintro e w3 ⟨rfl, hb3⟩
  go_wp2_with fail
  go_ret
  exact ⟨by simp, below_ext (below_ext hb1 hb2) hb3⟩
end Go.Proofs.YtlbfmapbpbpipaaDoor
