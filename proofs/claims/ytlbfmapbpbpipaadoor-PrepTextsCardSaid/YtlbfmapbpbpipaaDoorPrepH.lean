/- prep.Holds: what it returns, for every text and every list of pieces. -/
import Derived.Test.YtlbfmapbpbpipaaDoorPrepP
namespace Go.Proofs.YtlbfmapbpbpipaaDoor
open Go.RowKit Go.Lib

/-- A value that reads as a list of texts. -/
def Strs (w : World) (v : Value) (ls : List (List UInt8)) : Prop :=
  ∃ A c, v = .slice A ls.length c ∧ ls.length ≤ c ∧ (0 < ls.length → ∃ g o, A = some ⟨g, o, none⟩ ∧ ∀ k l, ls[k]? = some l → w.cell? ⟨g, o + k, none⟩ = some (.string ⟨l.toArray⟩))

theorem CutPrefix_l (s p : List UInt8) (w : World) :
    Calls Tryd.prog 30 #[.string ⟨s.toArray⟩, .string ⟨p.toArray⟩] w fun e w' => e = .returned (.tuple #[.string ⟨(trimPrefix s p).toArray⟩, .bool (hasPrefix s p)]) ∧ w = w' :=
  (Tryd.strings_CutPrefix ⟨s.toArray⟩ ⟨p.toArray⟩ w).mono fun e w' ⟨he, hw⟩ => ⟨by simpa using he, hw.symm⟩
theorem CutSuffix_l (s p : List UInt8) (w : World) (hs : s.length ≤ 9223372036854775807) :
    Calls Tryd.prog 31 #[.string ⟨s.toArray⟩, .string ⟨p.toArray⟩] w fun e w' => e = .returned (.tuple #[.string ⟨(trimSuffix s p).toArray⟩, .bool (hasSuffix s p)]) ∧ w = w' :=
  (Tryd.strings_CutSuffix ⟨s.toArray⟩ ⟨p.toArray⟩ w (by rw [Lib.size_mk]; exact hs)).mono fun e w' ⟨he, hw⟩ => ⟨by simpa using he, hw.symm⟩
theorem Index_l (s p : List UInt8) (w : World) (hs : s.length < 4294967281) (hE : Env w) :
    Calls Tryd.prog 32 #[.string ⟨s.toArray⟩, .string ⟨p.toArray⟩] w fun e w' => e = .returned (.int .i64 (Lib.index s p)) ∧ w = w' := by
  obtain ⟨m, hm⟩ := hE.maxl
  exact (Tryd.strings_Index ⟨s.toArray⟩ ⟨p.toArray⟩ m w (by rw [Lib.size_mk]; exact hs) hm).mono fun e w' ⟨he, hw⟩ => ⟨by simpa using he, hw.symm⟩

def HRel (s : List UInt8) (mid : List (List UInt8)) (ANS : Bool) (t i : Value) : Prop :=
  ∃ (k : Nat) (r : List UInt8), i = .int .i64 k ∧ t = .string ⟨r.toArray⟩ ∧ k ≤ mid.length ∧ r.length ≤ s.length ∧ findL r (mid.drop k) = ANS

set_option maxHeartbeats 1000000 in
theorem Holds_l (s : List UInt8) (ls : List (List UInt8)) (v : Value) (w : World) (hs : s.length < 4294967281) (hv : Strs w v ls) (hn : ls.length ≤ 1099511627776) (hE : Env w) :
    Calls Tryd.prog 17 #[.string ⟨s.toArray⟩, v] w fun e w' => e = .returned (.bool (holdsL s ls)) ∧ w = w' := by
  obtain ⟨A, cap, rfl, hcap, hA⟩ := hv
  by_cases h2 : ls.length < 2
  · rw [holdsL, if_pos h2]
    clear hA hE
    go_enter Tryd.func17, Tryd.ntmps17
    go_wp2
    go_ret
    exact ⟨rfl, rfl⟩
  · obtain ⟨g, o, rfl, hc⟩ := hA (by omega)
    rw [holdsL, if_neg h2]
    have c0 := hc 0 (ls.getD 0 []) (by rw [List.getD_eq_getElem?_getD, List.getElem?_eq_getElem (by omega)]; rfl)
    have cz := hc (ls.length - 1) (ls.getD (ls.length - 1) []) (by rw [List.getD_eq_getElem?_getD, List.getElem?_eq_getElem (by omega)]; rfl)
    have HC := Lib.hid hc
    clear hc
    obtain ⟨a, ha⟩ : ∃ a, ls.getD 0 [] = a := ⟨_, rfl⟩
    obtain ⟨z, hz⟩ : ∃ z, ls.getD (ls.length - 1) [] = z := ⟨_, rfl⟩
    rw [ha] at c0
    rw [hz] at cz
    rw [ha, hz]
    clear ha hz
    have k1 := CutPrefix_l s a w
    have hl1 := trimPrefix_le' s a
    obtain ⟨hp, hhp⟩ : ∃ hp, hasPrefix s a = hp := ⟨_, rfl⟩
    obtain ⟨r1, hr1⟩ : ∃ r1, trimPrefix s a = r1 := ⟨_, rfl⟩
    rw [hhp, hr1] at k1 ⊢
    rw [hr1] at hl1
    clear hr1 hhp
    simp only [Nat.add_zero] at c0
    cases hp
    · rw [if_pos rfl]
      clear hE HC
      go_enter Tryd.func17, Tryd.ntmps17
      go_wp2_with (go_at_call 30; refine k1.mono ?_; rintro e w' ⟨rfl, rfl⟩)
      go_ret
      exact ⟨rfl, rfl⟩
    · rw [if_neg (by simp)]
      have k2 := CutSuffix_l r1 z w (by omega)
      have hl2 := trimSuffix_le' r1 z
      obtain ⟨hp, hhp⟩ : ∃ hp, hasSuffix r1 z = hp := ⟨_, rfl⟩
      obtain ⟨r2, hr2⟩ : ∃ r2, trimSuffix r1 z = r2 := ⟨_, rfl⟩
      rw [hhp, hr2] at k2 ⊢
      rw [hr2] at hl2
      clear hr2 hhp
      have hlz : (ls.length : Int) - 1 ≤ 1099511627776 := by omega
      cases hp
      · rw [if_pos rfl]
        clear hE HC
        go_enter Tryd.func17, Tryd.ntmps17
        go_wp2_with (first | (go_at_call 30; refine k1.mono ?_; rintro e w' ⟨rfl, rfl⟩) | (go_at_call 31; refine k2.mono ?_; rintro e w' ⟨rfl, rfl⟩))
        go_ret
        exact ⟨rfl, rfl⟩
      · rw [if_neg (by simp)]
        obtain ⟨ANS, hANS⟩ : ∃ ANS, findL r2 ((ls.drop 1).take (ls.length - 2)) = ANS := ⟨_, rfl⟩
        rw [hANS]
        have HA := Lib.hid hANS
        clear hANS
        go_enter Tryd.func17, Tryd.ntmps17
        go_wp2_with (first | (go_at_call 30; refine k1.mono ?_; rintro e w' ⟨rfl, rfl⟩) | (go_at_call 31; refine k2.mono ?_; rintro e w' ⟨rfl, rfl⟩))
        go_loop [6, 42] (fun t i => HRel s ((ls.drop 1).take (ls.length - 2)) ANS t i) (fun _ i => ls.length - (RowKit.intOf i).toNat)
        case atStart => exact ⟨0, r2, rfl, rfl, by omega, by omega, by simpa using HA.out⟩
        case round =>
          obtain ⟨k, r, rfl, rfl, hk, hrl, hf⟩ := hrel
          have hml : ((ls.drop 1).take (ls.length - 2)).length = ls.length - 2 := by simp; omega
          rw [hml] at hk
          clear HA k1 k2 c0 cz hl1 hl2
          by_cases hlt : k < ls.length - 2
          · have hck := HC.out (k + 1) (ls.getD (k + 1) []) (by rw [List.getD_eq_getElem?_getD, List.getElem?_eq_getElem (by omega)]; rfl)
            have hmk : ((ls.drop 1).take (ls.length - 2)).drop k = ls.getD (k + 1) [] :: ((ls.drop 1).take (ls.length - 2)).drop (k + 1) := by
              rw [List.drop_eq_getElem_cons (by rw [hml]; exact hlt)]
              congr 1
              rw [List.getElem_take, List.getElem_drop, List.getD_eq_getElem?_getD, List.getElem?_eq_getElem (by omega)]
              simp [Nat.add_comm]
            rw [hmk, findL] at hf
            obtain ⟨p, hp⟩ : ∃ p, ls.getD (k + 1) [] = p := ⟨_, rfl⟩
            rw [hp] at hck hf
            rw [show o + (k + 1) = o + 1 + k by omega] at hck
            have kI := Index_l r p w (by omega) hE
            have hroom := index_room r p
            obtain ⟨I, hI⟩ : ∃ I, Lib.index r p = I := ⟨_, rfl⟩
            rw [hI] at kI hroom hf
            clear hI hp hmk hml HC hE
            rcases hroom with rfl | ⟨i, rfl, hi⟩
            · rw [if_pos (by omega)] at hf
              subst hf
              go_wp2_with (go_at_call 32; refine kI.mono ?_; rintro e w' ⟨rfl, rfl⟩)
              go_ret
              exact ⟨rfl, rfl⟩
            · rw [if_neg (by omega), Int.toNat_natCast] at hf
              have HF := Lib.hid hf
              clear hf
              go_wp2_with (go_at_call 32; refine kI.mono ?_; rintro e w' ⟨rfl, rfl⟩)
              go_round
              case rel => exact ⟨k + 1, r.drop (i + p.length), by go_num, by rw [Lib.extract_mk, List.take_of_length_le (by rw [List.length_drop]; omega)], by rw [List.length_take, List.length_drop]; omega, by rw [List.length_drop]; omega, HF.out⟩
              case measure => simp [RowKit.intOf]; omega
          · rw [List.drop_of_length_le (by omega), findL] at hf
            clear hml
            subst hf
            go_wp2
            go_ret
            exact ⟨rfl, rfl⟩
end Go.Proofs.YtlbfmapbpbpipaaDoor
