/- prep.Prepare: what it returns, for every text. -/
import Derived.Test.YtlbfmapbpbpipaaDoorPrepM
namespace Go.Proofs.YtlbfmapbpbpipaaDoor
open Go.RowKit Go.Lib

theorem Trim_any (l : List UInt8) (w : World) (hs : l.length ≤ 9223372036854775807) :
    Calls Tryd.prog 23 #[.string ⟨l.toArray⟩, .string ⟨#[32]⟩] w fun e w' => e = .returned (.string ⟨(trimB l 32).toArray⟩) ∧ Below w.heap.size w w' :=
  (Tryd.strings_Trim_one ⟨l.toArray⟩ 32 (by decide) w (by rw [Lib.size_mk]; exact hs)).mono fun e w' ⟨he, hw⟩ => ⟨by simpa using he, by
    rcases hw with rfl | rfl
    · exact Below.refl _ _
    · exact (Below.refl _ _).drew⟩

theorem mapped_l (l : List UInt8) (fold : Bool) (w : World) (hs : l.length ≤ 1099511627776) (hE : Env w) :
    Calls Tryd.prog 22 #[.string ⟨l.toArray⟩, .bool fold] w fun e w' => e = .returned (strOk (mappedL l fold)) ∧ Below w.heap.size w w' := by
  have := mapped_any ⟨l.toArray⟩ fold w (by rw [Lib.size_mk]; exact hs) hE
  simpa using this
theorem Text_l (l : List UInt8) (w : World) (hs : l.length ≤ 9223372036854775807) (hE : Env w) :
    Calls Tryd.prog 16 #[.string ⟨l.toArray⟩] w fun e w' => e = .returned (.bool (validD l)) ∧ Below w.heap.size w w' := by
  have := Text_any ⟨l.toArray⟩ w (by rw [Lib.size_mk]; exact hs) hE
  simpa using this

set_option maxHeartbeats 1000000 in
theorem Prepare_l (l : List UInt8) (fold : Bool) (w : World) (hs : l.length ≤ 1099511627776) (hE : Env w) :
    Calls Tryd.prog 14 #[.string ⟨l.toArray⟩, .bool fold] w fun e w' => e = .returned (strOk (prepL l fold)) ∧ Below w.heap.size w w' := by
  have c1 := mapped_l l fold w hs hE
  clear hE
  unfold prepL
  have hlen := mappedL_length l fold
  obtain ⟨M, hM⟩ : ∃ M, mappedL l fold = M := ⟨_, rfl⟩
  rw [hM] at c1 hlen ⊢
  clear hM
  cases M with
  | none =>
    simp only [strOk] at c1 ⊢
    clear hlen
    go_enter Tryd.func14, Tryd.ntmps14
    go_wp2_with (go_at_call 22; refine c1.mono ?_; rintro e w' ⟨rfl, hb⟩)
    go_ret2
    exact ⟨rfl, hb⟩
  | some t =>
    have ht := hlen t rfl
    clear hlen
    have cT := fun w => Trim_any t w (by omega)
    simp only [strOk] at c1
    obtain ⟨u, hu⟩ : ∃ u, trimB t 32 = u := ⟨_, rfl⟩
    rw [hu] at cT
    simp only [hu]
    clear hu
    obtain ⟨R, hR⟩ : ∃ R, strOk (if u = [] ∧ l ≠ [] then some [32] else some u) = R := ⟨_, rfl⟩
    rw [hR]
    have HR := Lib.hid hR
    clear hR
    go_enter Tryd.func14, Tryd.ntmps14
    go_wp2_with (first | (go_at_call 22; refine c1.mono ?_; rintro e w1 ⟨rfl, hb1⟩) | (go_at_call 23; refine (cT _).mono ?_; rintro e w2 ⟨rfl, hb2⟩))
    all_goals go_ret2
    all_goals (refine ⟨?_, below_ext hb1 hb2⟩; rw [← HR.out])
    all_goals first | (rw [if_pos (by simp_all)]; rfl) | (rw [if_neg (by simp_all)]; simp_all; rfl) | (rw [if_neg (by simp_all)]; rfl)
end Go.Proofs.YtlbfmapbpbpipaaDoor
