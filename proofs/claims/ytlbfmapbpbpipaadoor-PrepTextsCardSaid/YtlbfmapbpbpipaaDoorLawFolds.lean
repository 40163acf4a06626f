/- The law PrepFolds: walked. -/
import Derived.Test.YtlbfmapbpbpipaaDoorPrepA
import Derived.Test.YtlbfmapbpbpipaaDoorPlainTwice
namespace Go.Proofs.YtlbfmapbpbpipaaDoor
open Go.RowKit Go.Lib

theorem prepL_length (l : List UInt8) (fold : Bool) (a : List UInt8) (h : prepL l fold = some a) : a.length ≤ 4 * l.length + 1 := by
  unfold prepL at h
  cases hm : mappedL l fold with
  | none => rw [hm] at h; cases h
  | some t =>
    rw [hm] at h
    simp only at h
    have hl := mappedL_length l fold t hm
    have ht : (trimB t 32).length ≤ t.length := by
      unfold trimB trimLeftB trimRightB
      have h1 := (List.dropWhile_sublist (l := (t.reverse.dropWhile (· == (32 : UInt8))).reverse) (· == (32 : UInt8))).length_le
      have h2 := (List.dropWhile_sublist (l := t.reverse) (· == (32 : UInt8))).length_le
      simp only [List.length_reverse] at h1 h2
      omega
    split at h
    · cases h; simp
    · cases h; omega

set_option maxHeartbeats 1000000 in
theorem PrepFolds_any (r : Int) (l : List UInt8) (w : World) (hl : l.length ≤ 9223372036854775807) (hE : Env w) :
    Calls Tryd.prog 7 #[.int .i32 r, .string ⟨l.toArray⟩] w fun e w' => e = .returned (.bool true) ∧ Below w.heap.size w w' := by
  have HE := Lib.hid hE
  clear hE
  by_cases h3 : 3000 < l.length
  · have h3z : (3000 : Int) < (l.length : Int) := by omega
    go_enter Tryd.func7, Tryd.ntmps7
    go_wp2_with fail
    refine (alive_any w HE.out).mono ?_
    rintro e w1 ⟨rfl, hb1⟩
    go_wp2_with fail
    go_ret
    exact ⟨rfl, hb1⟩
  · have h3z : (l.length : Int) ≤ 3000 := by omega
    have cF := Fold_any r w
    have cFF := Fold_any (foldR r) w
    rw [fold_fold] at cFF
    obtain ⟨f, hf⟩ : ∃ f, foldR r = f := ⟨_, rfl⟩
    rw [hf] at cF cFF
    clear hf
    have c1 := Prepare_l l false w (by omega) HE.out
    have c2 := fun w hE => Prepare_l l true w (by omega) hE
    obtain ⟨hn, hs⟩ := prep_fold l
    have hlen := prepL_length l false
    have C2 := Lib.hid c2
    clear c2
    obtain ⟨A, hA⟩ : ∃ A, prepL l false = A := ⟨_, rfl⟩
    obtain ⟨B, hB⟩ : ∃ B, prepL l true = B := ⟨_, rfl⟩
    rw [hA] at c1 hn hs hlen
    rw [hB] at hn hs C2
    clear hA hB
    cases A with
    | none =>
      obtain rfl := hn.1 rfl
      clear hs hlen hn
      have c3 := fun w hE => Prepare_l [] true w (by simp) hE
      rw [show prepL [] true = some [] by decide +kernel] at c3
      have C3 := Lib.hid c3
      clear c3
      simp only [strOk] at c1
      go_enter Tryd.func7, Tryd.ntmps7
      go_wp2_with fail
      refine cF.mono ?_
      rintro e w1 ⟨rfl, rfl⟩
      go_wp2_with fail
      refine cFF.mono ?_
      rintro e w1 ⟨rfl, rfl⟩
      go_wp2_with fail
      refine cF.mono ?_
      rintro e w1 ⟨rfl, rfl⟩
      go_wp2_with fail
      refine c1.mono ?_
      rintro e w1 ⟨rfl, hb1⟩
      go_wp2_with fail
      refine (C2.out _ (HE.out.below hb1)).mono ?_
      rintro e w2 ⟨rfl, hb2⟩
      simp only [strOk]
      have hb := below_ext hb1 hb2
      go_wp2_with fail
      refine (C3.out _ (HE.out.below hb)).mono ?_
      rintro e w3 ⟨rfl, hb3⟩
      simp only [strOk]
      have hb' := below_ext hb hb3
      go_wp2_with fail
      refine (alive_any _ (HE.out.below hb')).mono ?_
      rintro e w4 ⟨rfl, hb4⟩
      go_wp2_with fail
      go_ret
      exact ⟨rfl, below_ext hb' hb4⟩
    | some a =>
      cases B with
      | none => exact absurd (hn.2 rfl) (by simp)
      | some b =>
        have hc := hs a rfl
        have hal := hlen a rfl
        clear hs hlen hn
        have c3 := fun w hE => Prepare_l a true w (by omega) hE
        rw [hc] at c3
        have C3 := Lib.hid c3
        clear c3 hc
        simp only [strOk] at c1
        go_enter Tryd.func7, Tryd.ntmps7
        go_wp2_with fail
        refine cF.mono ?_
        rintro e w1 ⟨rfl, rfl⟩
        go_wp2_with fail
        refine cFF.mono ?_
        rintro e w1 ⟨rfl, rfl⟩
        go_wp2_with fail
        refine cF.mono ?_
        rintro e w1 ⟨rfl, rfl⟩
        go_wp2_with fail
        refine c1.mono ?_
        rintro e w1 ⟨rfl, hb1⟩
        go_wp2_with fail
        refine (C2.out _ (HE.out.below hb1)).mono ?_
        rintro e w2 ⟨rfl, hb2⟩
        simp only [strOk]
        have hb := below_ext hb1 hb2
        go_wp2_with fail
        refine (C3.out _ (HE.out.below hb)).mono ?_
        rintro e w3 ⟨rfl, hb3⟩
        simp only [strOk]
        have hb' := below_ext hb hb3
        go_wp2_with fail
        refine (alive_any _ (HE.out.below hb')).mono ?_
        rintro e w4 ⟨rfl, hb4⟩
        go_wp2_with fail
        go_ret
        exact ⟨by simp, below_ext hb' hb4⟩
end Go.Proofs.YtlbfmapbpbpipaaDoor
