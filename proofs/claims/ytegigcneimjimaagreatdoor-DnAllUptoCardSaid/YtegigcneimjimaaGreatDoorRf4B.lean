/- chanceryref4.IsType: what it returns. -/
import Derived.Test.YtegigcneimjimaaGreatDoorRf4A
namespace Go.Proofs.YtegigcneimjimaaGreatDoor
open Go.RowKit Go.Lib

theorem ty_byte (c : UInt8) : (inTyB c && c != 46) = (letB c || digB c || c == 45) := by
  have : ∀ i : Fin 256, (inTyB (UInt8.ofNat i.val) && UInt8.ofNat i.val != 46) = (letB (UInt8.ofNat i.val) || digB (UInt8.ofNat i.val) || UInt8.ofNat i.val == 45) := by decide +kernel
  have h := this ⟨c.toNat, UInt8.toNat_lt c⟩
  simpa using h
set_option maxRecDepth 100000 in
set_option maxHeartbeats 4000000 in
theorem RIsType_any (s : List UInt8) (w : World) (hs : s.length ≤ 1099511627776) :
    Calls Tryz.prog 128 #[.string ⟨s.toArray⟩] w fun e w' => e = .returned (.bool (isTyB s)) ∧ w = w' := by
  unfold isTyB
  by_cases h0 : s = []
  · subst h0
    rw [if_pos (.inl rfl)]
    go_enter Tryz.func128, Tryz.ntmps128
    go_wp2
    go_ret
    exact ⟨rfl, rfl⟩
  · have hl : 0 < s.length := by cases s <;> simp_all
    have q0 : decide ((s.length : Int) < 1) = false := decide_eq_false (by omega)
    by_cases h64 : 64 < s.length
    · rw [if_pos (.inr h64)]
      have q1 : decide ((64 : Int) < (s.length : Int)) = true := decide_eq_true (by omega)
      go_enter Tryz.func128, Tryz.ntmps128
      go_wp2
      go_ret
      exact ⟨rfl, rfl⟩
    · rw [if_neg (by rintro (h | h); exact h0 h; exact h64 h)]
      have q1 : decide ((64 : Int) < (s.length : Int)) = false := decide_eq_false (by omega)
      have hg0 : s.getD 0 0 = s[0] := by simp [hl]
      have k1 := rletter_any s[0] w
      rw [hg0]
      generalize letB s[0] = p at k1 ⊢
      cases p
      · rw [if_neg (by simp)]
        have k2 := Numbers_any s w (by omega)
        go_enter Tryz.func128, Tryz.ntmps128
        go_wp2_with (first | (go_at_call 213; refine Calls.mono (show Calls _ _ _ _ _ from k1) ?_; rintro e w' ⟨rfl, rfl⟩) | (go_at_call 215; refine k2.mono ?_; rintro e w2 ⟨rfl, rfl⟩))
        go_ret
        exact ⟨rfl, rfl⟩
      · rw [if_pos rfl]
        simp only [ty_byte]
        obtain ⟨ANS, hA⟩ : ∃ ANS, s.all (fun c => letB c || digB c || c == 45) = ANS := ⟨_, rfl⟩
        rw [hA]
        have HA := Lib.hid hA
        clear hA
        go_enter Tryz.func128, Tryz.ntmps128
        go_wp2_with (go_at_call 213; refine Calls.mono (show Calls _ _ _ _ _ from k1) ?_; rintro e w' ⟨rfl, rfl⟩)
        go_loopw [3] (fun i wr => ∃ k : Nat, i = .int .i64 (k : Int) ∧ k ≤ s.length ∧ w = wr ∧ (s.drop k).all (fun c => letB c || digB c || c == 45) = ANS) (fun i _ => s.length - (RowKit.intOf i).toNat)
        case atStart => exact ⟨0, rfl, by omega, rfl, HA.out⟩
        case round =>
          obtain ⟨k, rfl, hk, rfl, hans⟩ := hrel
          clear HA
          by_cases hkl : k < s.length
          · rw [List.drop_eq_getElem_cons hkl, List.all_cons] at hans
            have k3 := rletter_any s[k] w
            have k4 := rdigit_any s[k] w
            have hq : (((((⟨s.toArray⟩ : ByteArray)[k]'(by rw [Lib.size_mk]; omega)).toNat : Int)) == 45) = (s[k] == 45) := by
              show (((s[k]).toNat : Int) == 45) = _
              exact (beq_nat _ 45).trans (u8_beq s[k] 45 (by decide)).symm
            have gd : decide ((k : Int) < (s.length : Int)) = true := decide_eq_true (by omega)
            generalize (s[k] == 45) = q at hq hans
            generalize letB s[k] = p at k3 hans
            generalize digB s[k] = d at k4 hans
            have HS := Lib.hid hans
            clear hans
            by_cases hb : (p || d || q) = true
            · have h2 : (s.drop (k + 1)).all (fun c => letB c || digB c || c == 45) = ANS := by rw [← HS.out, hb, Bool.true_and]
              have HS2 := Lib.hid h2
              clear h2 HS
              cases p <;> cases d <;> cases q <;> first | (exfalso; revert hb; decide) | skip
              all_goals
                clear hb
                go_wp2_with (first | (go_at_call 213; refine Calls.mono (show Calls _ _ _ _ _ from k3) ?_; rintro e w' ⟨rfl, rfl⟩) | (go_at_call 214; refine Calls.mono (show Calls _ _ _ _ _ from k4) ?_; rintro e w' ⟨rfl, rfl⟩))
                go_roundw
                case rel => exact ⟨k + 1, by go_num, by omega, trivial, HS2.out⟩
                case measure => simp [RowKit.intOf]; omega
            · have hb2 : (p || d || q) = false := by simpa using hb
              have e : ANS = false := by rw [← HS.out, hb2, Bool.false_and]
              subst e
              clear HS hb
              cases p <;> cases d <;> cases q <;> first | (exfalso; revert hb2; decide) | skip
              all_goals
                clear hb2
                go_wp2_with (first | (go_at_call 213; refine Calls.mono (show Calls _ _ _ _ _ from k3) ?_; rintro e w' ⟨rfl, rfl⟩) | (go_at_call 214; refine Calls.mono (show Calls _ _ _ _ _ from k4) ?_; rintro e w' ⟨rfl, rfl⟩))
                go_ret
                exact ⟨rfl, rfl⟩
          · have e : ANS = true := by rw [← hans, List.drop_of_length_le (by omega)]; rfl
            subst e
            have gd : ¬ k < s.length := hkl
            clear hans
            go_wp2_with fail
            go_ret
            exact ⟨rfl, rfl⟩
end Go.Proofs.YtegigcneimjimaaGreatDoor
