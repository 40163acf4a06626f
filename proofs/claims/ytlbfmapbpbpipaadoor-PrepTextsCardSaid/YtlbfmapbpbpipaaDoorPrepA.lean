/- The statements' own first call (alive), chapter 3: it returns true. -/
import Derived.Test.YtlbfmapbpbpipaaDoorPrepH
namespace Go.Proofs.YtlbfmapbpbpipaaDoor
open Go.RowKit Go.Lib

theorem alive_prep : prepL [32, 32, 65, 98, 9, 32, 99, 32] true = some [97, 98, 32, 99] := by decide +kernel
theorem alive_fold : foldR 196 = 228 := by decide
theorem alive_holds : holdsL [97, 98, 99] [[], [98], []] = true := by decide +kernel

theorem strs_new3 (w : World) (a b c : List UInt8) (t : TypeId) : Strs (w.alloc (.cells #[.string ⟨a.toArray⟩, .string ⟨b.toArray⟩, .string ⟨c.toArray⟩] t)) (.slice (some ⟨w.heap.size, 0, none⟩) 3 3) [a, b, c] := by
  refine ⟨_, _, rfl, Nat.le_refl _, fun _ => ⟨w.heap.size, 0, rfl, fun k l hk => ?_⟩⟩
  match k, hk with
  | 0, hk => simp at hk; subst hk; simp
  | 1, hk => simp at hk; subst hk; simp
  | 2, hk => simp at hk; subst hk; simp
  | k + 3, hk => simp at hk

set_option maxHeartbeats 1000000 in
theorem alive_any (w : World) (hE : Env w) :
    Calls Tryd.prog 11 #[] w fun e w' => e = .returned (.bool true) ∧ Below w.heap.size w w' := by
  have c1 := Prepare_l [32, 32, 65, 98, 9, 32, 99, 32] true w (by decide) hE
  rw [alive_prep] at c1
  simp only [strOk] at c1
  have HE := Lib.hid hE
  clear hE
  go_enter Tryd.func11, Tryd.ntmps11
  have cF : ∀ w, Calls Tryd.prog 12 #[.int .i32 196] w fun e w' => e = .returned (.int .i32 228) ∧ w = w' := fun w => Fold_any 196 w
  have HF := Lib.hid cF
  clear cF
  go_wp2_with (first | (go_at_call 14; refine c1.mono ?_; rintro e w1 ⟨rfl, hb1⟩) | (go_at_call 12; refine (HF.out _).mono ?_; rintro e w' ⟨rfl, rfl⟩) | fail)
  have hE2 : Env (w1.alloc (.cells #[.string ⟨([] : List UInt8).toArray⟩, .string ⟨[98].toArray⟩, .string ⟨([] : List UInt8).toArray⟩] 9)) := (HE.out.below hb1).below ((Below.refl _ _).alloc (Nat.le_refl _) _)
  have c2 := Holds_l [97, 98, 99] [[], [98], []] _ _ (by decide) (strs_new3 w1 [] [98] [] 9) (by decide) hE2
  rw [alive_holds] at c2
  refine c2.mono ?_
  rintro e w' ⟨rfl, rfl⟩
  go_wp2
  go_ret
  exact ⟨rfl, hb1.alloc hb1.size _⟩
end Go.Proofs.YtlbfmapbpbpipaaDoor
