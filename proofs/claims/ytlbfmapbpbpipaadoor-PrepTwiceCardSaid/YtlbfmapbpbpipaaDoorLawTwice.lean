/- The law PrepTwice: walked. -/
import Derived.Test.YtlbfmapbpbpipaaDoorLawFolds
namespace Go.Proofs.YtlbfmapbpbpipaaDoor
open Go.RowKit Go.Lib

set_option maxRecDepth 100000 in
set_option maxHeartbeats 2000000 in
theorem PrepTwice_any (l : List UInt8) (fold : Bool) (w : World) (hl : l.length ≤ 9223372036854775807) (hE : Env w) :
    Calls Tryd.prog 5 #[.string ⟨l.toArray⟩, .bool fold] w fun e w' => e = .returned (.bool true) ∧ Below w.heap.size w w' := by
  have HE := Lib.hid hE
  clear hE
  by_cases h3 : 9000 < l.length
  · have h3z : (9000 : Int) < (l.length : Int) := by omega
    go_enter Tryd.func5, Tryd.ntmps5
    go_wp2_with fail
    refine (alive_any w HE.out).mono ?_
    rintro e w1 ⟨rfl, hb1⟩
    go_wp2_with fail
    go_ret
    exact ⟨rfl, hb1⟩
  · have h3z : (l.length : Int) ≤ 9000 := by omega
    have c1 := Prepare_l l fold w (by omega) HE.out
    have hlen := prepL_length l fold
    have htw := prep_twice l fold
    have hbl := prep_blank l fold
    obtain ⟨A, hA⟩ : ∃ A, prepL l fold = A := ⟨_, rfl⟩
    rw [hA] at c1 hlen htw hbl
    clear hA
    cases A with
    | none =>
      clear hlen htw hbl
      simp only [strOk] at c1
      go_enter Tryd.func5, Tryd.ntmps5
      go_wp2_with fail
      refine c1.mono ?_
      rintro e w1 ⟨rfl, hb1⟩
      go_wp2_with fail
      refine (alive_any w1 (HE.out.below hb1)).mono ?_
      rintro e w2 ⟨rfl, hb2⟩
      go_wp2_with fail
      go_ret
      exact ⟨rfl, below_ext hb1 hb2⟩
    | some a =>
      obtain ⟨ht1, ht2, ht3⟩ := htw a rfl
      have hal := hlen a rfl
      have HB := Lib.hid (hbl a rfl)
      clear hlen htw hbl
      simp only [strOk] at c1
      have c2 := fun w hE => Prepare_l a fold w (by omega) hE
      rw [ht1] at c2
      simp only [strOk] at c2
      have c3 := fun w hE => Text_l a w (by omega) hE
      rw [ht3] at c3
      have C2 := Lib.hid c2
      have C3 := Lib.hid c3
      have hq : a.isEmpty = l.isEmpty := by
        cases a with
        | nil => rw [ht2.1 rfl]
        | cons x a =>
          cases l with
          | nil => exact absurd (ht2.2 rfl) (by simp)
          | cons y l => rfl
      clear c2 c3 ht1 ht2 ht3
      go_enter Tryd.func5, Tryd.ntmps5
      go_wp2_with fail
      refine c1.mono ?_
      rintro e w1 ⟨rfl, hb1⟩
      go_wp2_with fail
      refine (C2.out _ (HE.out.below hb1)).mono ?_
      rintro e w2 ⟨rfl, hb2⟩
      have hb := below_ext hb1 hb2
      go_wp2_with fail
      refine (C3.out _ (HE.out.below hb)).mono ?_
      rintro e w3 ⟨rfl, hb3⟩
      have hb' := below_ext hb hb3
      clear hq
      go_wp2_with fail
      by_cases hs : a = [32]
      · subst hs
        go_loop [9] (fun i => i = .int .i64 0) (fun _ => 0)
        case atStart => exact rfl
        case round =>
          subst hrel
          go_wp2_with fail
          refine (alive_any _ (HE.out.below hb')).mono ?_
          rintro e w4 ⟨rfl, hb4⟩
          go_wp2_with fail
          go_ret
          exact ⟨rfl, below_ext hb' hb4⟩
      · have HB2 := Lib.hid (fun i hi h32 => HB.out hs i hi h32)
        have hs2 : (a == [32]) = false := beq_eq_false_iff_ne.2 hs
        clear HB
        go_loop [9] (fun i => ∃ k : Nat, i = .int .i64 k ∧ k ≤ a.length) (fun i => a.length - (RowKit.intOf i).toNat)
        case atStart => exact ⟨0, rfl, by omega⟩
        case round =>
          obtain ⟨k, rfl, hk⟩ := hrel
          by_cases hlt : k < a.length
          · have hge : a.length ≤ 40000 := by omega
            have hsz : (⟨a.toArray⟩ : ByteArray).size = a.length := Lib.size_mk a
            have hne : ∀ h0 : k < (⟨a.toArray⟩ : ByteArray).size, ((⟨a.toArray⟩ : ByteArray)[k]'h0).toNat = 32 → k ≠ 0 ∧ k ≠ a.length - 1 ∧ ∀ h1 : k - 1 < (⟨a.toArray⟩ : ByteArray).size, ((⟨a.toArray⟩ : ByteArray)[k - 1]'h1).toNat ≠ 32 := by
              intro h0 h32
              obtain ⟨n1, n2, n3⟩ := HB2.out k hlt (UInt8.toNat_inj.1 h32)
              refine ⟨n1, n2, fun h1 hx => n3 (k - 1) (by omega) (by omega) (UInt8.toNat_inj.1 hx)⟩
            have HNE := Lib.hid hne
            clear hne hsz
            go_wp2_with fail
            all_goals first
              | (go_round; (case rel => exact ⟨k + 1, by go_num, by omega⟩); (case measure => simp [RowKit.intOf]; omega))
              | (exfalso; obtain ⟨n1, n2, n3⟩ := HNE.out (by rw [Lib.size_mk]; exact hlt) (by omega); have n4 := n3 (by rw [Lib.size_mk]; omega); (try simp only [beq_iff_eq] at *); omega)
          · go_wp2_with fail
            refine (alive_any _ (HE.out.below hb')).mono ?_
            rintro e w4 ⟨rfl, hb4⟩
            go_wp2_with fail
            go_ret
            exact ⟨rfl, below_ext hb' hb4⟩
end Go.Proofs.YtlbfmapbpbpipaaDoor
