/- chanceryref4.letter, digit, Numbers, IsType: what they return. -/
import Derived.Test.YtegigcneimjimaaGreatDoorDnT
import Derived.Test.YtegigcneimjimaaGreatDoorPlainNum
namespace Go.Proofs.YtegigcneimjimaaGreatDoor
open Go.RowKit Go.Lib

set_option maxRecDepth 100000 in
set_option maxHeartbeats 2000000 in
theorem rletter_any (c : UInt8) (w : World) :
    Calls Tryz.prog 213 #[.int .u8 (c.toNat : Int)] w fun e w' => e = .returned (.bool (letB c)) ∧ w = w' := by
  unfold letB
  obtain ⟨n, hn⟩ : ∃ n, c.toNat = n := ⟨_, rfl⟩
  rw [hn]
  clear hn
  have h0 : decide ((97 : Int) ≤ (n : Int)) = decide (97 ≤ n) := dec_le 97 n
  have h1 : decide ((n : Int) ≤ (122 : Int)) = decide (n ≤ 122) := dec_le n 122
  have h2 : decide ((65 : Int) ≤ (n : Int)) = decide (65 ≤ n) := dec_le 65 n
  have h3 : decide ((n : Int) ≤ (90 : Int)) = decide (n ≤ 90) := dec_le n 90
  generalize decide (97 ≤ n) = p at h0 ⊢
  generalize decide (n ≤ 122) = q at h1 ⊢
  generalize decide (65 ≤ n) = r at h2 ⊢
  generalize decide (n ≤ 90) = t at h3 ⊢
  cases p <;> cases q <;> cases r <;> cases t <;> (go_enter Tryz.func213, Tryz.ntmps213; go_wp2; go_ret; exact ⟨rfl, rfl⟩)
set_option maxRecDepth 100000 in
set_option maxHeartbeats 2000000 in
theorem rdigit_any (c : UInt8) (w : World) :
    Calls Tryz.prog 214 #[.int .u8 (c.toNat : Int)] w fun e w' => e = .returned (.bool (digB c)) ∧ w = w' := by
  unfold digB
  obtain ⟨n, hn⟩ : ∃ n, c.toNat = n := ⟨_, rfl⟩
  rw [hn]
  clear hn
  have h0 : decide ((48 : Int) ≤ (n : Int)) = decide (48 ≤ n) := dec_le 48 n
  have h1 : decide ((n : Int) ≤ (57 : Int)) = decide (n ≤ 57) := dec_le n 57
  generalize decide (48 ≤ n) = p at h0 ⊢
  generalize decide (n ≤ 57) = q at h1 ⊢
  cases p <;> cases q <;> (go_enter Tryz.func214, Tryz.ntmps214; go_wp2; go_ret; exact ⟨rfl, rfl⟩)
def NRel (s : List UInt8) (ANS : Bool) (pv fv iv : Value) : Prop :=
  ∃ k fr p : Nat, pv = .int .i64 (p : Int) ∧ fv = .int .i64 (fr : Int) ∧ iv = .int .i64 (k : Int) ∧ p ≤ k ∧ fr ≤ k ∧ k ≤ s.length + 1 ∧
    ((k ≤ s.length ∧ ((s.drop fr).take (k - fr)).all digB = true ∧ numGo (s.drop k) ((s.drop fr).take (k - fr)) p = ANS) ∨ (k = s.length + 1 ∧ decide (0 < p) = ANS))
theorem cut_len (s : List UInt8) (fr k : Nat) (h : fr ≤ k) (hk : k ≤ s.length) : ((s.drop fr).take (k - fr)).length = k - fr := by
  rw [List.length_take, List.length_drop]; omega
theorem cut_more (s : List UInt8) (fr k : Nat) (h : fr ≤ k) (hk : k < s.length) : (s.drop fr).take (k + 1 - fr) = (s.drop fr).take (k - fr) ++ [s[k]] := by
  have e : k + 1 - fr = (k - fr) + 1 := by omega
  rw [e, List.take_add_one, List.getElem?_drop, show fr + (k - fr) = k by omega, List.getElem?_eq_getElem hk]
  rfl
theorem cut_head (s : List UInt8) (fr k : Nat) (h : fr < k) (hk : k ≤ s.length) : ((s.drop fr).take (k - fr)).getD 0 0 = s[fr]'(by omega) := by
  rw [List.getD_eq_getElem?_getD, List.getElem?_take_of_lt (by omega), List.getElem?_drop, Nat.add_zero, List.getElem?_eq_getElem (by omega)]
  rfl
theorem numB_cut (s : List UInt8) (fr k : Nat) (h : fr < k) (hk : k ≤ s.length) (hd : ((s.drop fr).take (k - fr)).all digB = true) :
    numB ((s.drop fr).take (k - fr)) = !(decide (fr + 1 < k) && (s[fr]'(by omega)) == 48) := by
  have hl := cut_len s fr k (by omega) hk
  have hh := cut_head s fr k h hk
  unfold numB
  rw [hd, hh, hl, Bool.and_true]
  have e1 : ((s.drop fr).take (k - fr)).isEmpty = false := by
    cases hq : (s.drop fr).take (k - fr) with
    | nil => rw [hq] at hl; simp at hl; omega
    | cons a b => rfl
  have e2 : decide (1 < k - fr) = decide (fr + 1 < k) := decide_eq_decide.2 (by omega)
  rw [e1, e2]
  rfl
set_option maxRecDepth 100000 in
set_option maxHeartbeats 4000000 in
theorem Numbers_any (s : List UInt8) (w : World) (hs : s.length ≤ 1099511627776) :
    Calls Tryz.prog 215 #[.string ⟨s.toArray⟩] w fun e w' => e = .returned (.bool (oidB s)) ∧ w = w' := by
  rw [oid_numGo]
  obtain ⟨ANS, hA⟩ : ∃ ANS, numGo s [] 0 = ANS := ⟨_, rfl⟩
  rw [hA]
  have HA := Lib.hid hA
  clear hA
  go_enter Tryz.func215, Tryz.ntmps215
  go_wp2_with fail
  go_loopw [3, 4, 5] (fun p f i wr => NRel s ANS p f i ∧ w = wr) (fun _ _ i _ => s.length + 2 - (RowKit.intOf i).toNat)
  case atStart => exact ⟨⟨0, 0, 0, rfl, rfl, rfl, by omega, by omega, by omega, .inl ⟨by omega, rfl, HA.out⟩⟩, rfl⟩
  case round =>
    clear HA
    obtain ⟨⟨k, fr, p, rfl, rfl, rfl, hp, hfr, hk, hst⟩, rfl⟩ := hrel
    rcases hst with ⟨hkl, hdig, hans⟩ | ⟨hke, hans⟩
    · have g1 : decide ((k : Int) ≤ (s.length : Int)) = true := decide_eq_true (by omega)
      by_cases hlt : k < s.length
      · have g2 : decide ((k : Int) < (s.length : Int)) = true := decide_eq_true (by omega)
        obtain ⟨x, hx⟩ : ∃ x, s[k] = x := ⟨_, rfl⟩
        have hbx : ∀ h', (⟨s.toArray⟩ : ByteArray)[k]'h' = x := fun h' => hx
        have kd := rdigit_any x w
        rw [List.drop_eq_getElem_cons hlt, hx, numGo] at hans
        cases hd : digB x with
        | true =>
          rw [hd] at kd hans
          rw [if_pos rfl] at hans
          have hc := cut_more s fr k hfr hlt
          rw [hx] at hc
          rw [← hc] at hans
          have hdig2 : ((s.drop fr).take (k + 1 - fr)).all digB = true := by rw [hc]; simp [hdig, hd]
          have H1 := Lib.hid hans
          have H2 := Lib.hid hdig2
          clear hans hdig2 hc hdig hx
          go_wp2_with (go_at_call 214; refine Calls.mono (show Calls _ _ _ _ _ from kd) ?_; rintro e w' ⟨rfl, rfl⟩)
          go_roundw
          case rel => exact ⟨⟨k + 1, fr, p, rfl, rfl, by go_num, by omega, by omega, by omega, .inl ⟨by omega, H2.out, H1.out⟩⟩, trivial⟩
          case measure => simp [RowKit.intOf]; omega
        | false =>
          rw [hd] at kd hans
          rw [if_neg (by simp)] at hans
          by_cases hkf : fr = k
          · subst hkf
            rw [Nat.sub_self, List.take_zero] at hans
            rw [if_neg (by simp [numB])] at hans
            have e : ANS = false := hans.symm
            subst e
            go_wp2_with (go_at_call 214; refine Calls.mono (show Calls _ _ _ _ _ from kd) ?_; rintro e w' ⟨rfl, rfl⟩)
            go_ret
            exact ⟨rfl, rfl⟩
          · have b1 : ((k : Int) == (fr : Int)) = false := by rw [beq_eq_false_iff_ne]; omega
            have hnc := numB_cut s fr k (by omega) hkl hdig
            rw [hnc] at hans
            obtain ⟨y, hy⟩ : ∃ y, s[fr]'(by omega) = y := ⟨_, rfl⟩
            rw [hy] at hans
            have hby : ∀ h', (⟨s.toArray⟩ : ByteArray)[fr]'h' = y := fun h' => hy
            have yb : ((y.toNat : Int) == 48) = (y == 48) := (beq_nat _ 48).trans (u8_beq y 48 (by decide)).symm
            have ub : decide ((fr : Int) + 1 < (k : Int)) = decide (fr + 1 < k) := decide_eq_decide.2 (by omega)
            have i1 : (fr : Int) < (s.length : Int) := by omega
            generalize (y == 48) = q at yb hans
            generalize decide (fr + 1 < k) = u at ub hans
            clear hnc hdig hy
            have xb : ((x.toNat : Int) == 46) = (x == 46) := (beq_nat _ 46).trans (u8_beq x 46 (by decide)).symm
            generalize (x == 46) = c at xb hans
            have HS := Lib.hid hans
            clear hans
            cases q <;> cases u
            · cases c
              · have e : ANS = false := by rw [← HS.out]; rfl
                subst e
                go_wp2_with (go_at_call 214; refine Calls.mono (show Calls _ _ _ _ _ from kd) ?_; rintro e w' ⟨rfl, rfl⟩)
                go_ret
                exact ⟨rfl, rfl⟩
              · go_wp2_with (go_at_call 214; refine Calls.mono (show Calls _ _ _ _ _ from kd) ?_; rintro e w' ⟨rfl, rfl⟩)
                go_roundw
                case rel => exact ⟨⟨k + 1, k + 1, p + 1, by go_num, by go_num, by go_num, by omega, by omega, by omega, .inl ⟨by omega, by simp, by rw [← HS.out]; simp⟩⟩, trivial⟩
                case measure => simp [RowKit.intOf]; omega
            · cases c
              · have e : ANS = false := by rw [← HS.out]; rfl
                subst e
                go_wp2_with (go_at_call 214; refine Calls.mono (show Calls _ _ _ _ _ from kd) ?_; rintro e w' ⟨rfl, rfl⟩)
                go_ret
                exact ⟨rfl, rfl⟩
              · go_wp2_with (go_at_call 214; refine Calls.mono (show Calls _ _ _ _ _ from kd) ?_; rintro e w' ⟨rfl, rfl⟩)
                go_roundw
                case rel => exact ⟨⟨k + 1, k + 1, p + 1, by go_num, by go_num, by go_num, by omega, by omega, by omega, .inl ⟨by omega, by simp, by rw [← HS.out]; simp⟩⟩, trivial⟩
                case measure => simp [RowKit.intOf]; omega
            · cases c
              · have e : ANS = false := by rw [← HS.out]; rfl
                subst e
                go_wp2_with (go_at_call 214; refine Calls.mono (show Calls _ _ _ _ _ from kd) ?_; rintro e w' ⟨rfl, rfl⟩)
                go_ret
                exact ⟨rfl, rfl⟩
              · go_wp2_with (go_at_call 214; refine Calls.mono (show Calls _ _ _ _ _ from kd) ?_; rintro e w' ⟨rfl, rfl⟩)
                go_roundw
                case rel => exact ⟨⟨k + 1, k + 1, p + 1, by go_num, by go_num, by go_num, by omega, by omega, by omega, .inl ⟨by omega, by simp, by rw [← HS.out]; simp⟩⟩, trivial⟩
                case measure => simp [RowKit.intOf]; omega
            · have e : ANS = false := by rw [← HS.out]; rfl
              subst e
              go_wp2_with (go_at_call 214; refine Calls.mono (show Calls _ _ _ _ _ from kd) ?_; rintro e w' ⟨rfl, rfl⟩)
              go_ret
              exact ⟨rfl, rfl⟩
      · have hke : k = s.length := by omega
        have g2 : decide ((k : Int) < (s.length : Int)) = false := decide_eq_false (by omega)
        rw [List.drop_of_length_le (by omega), numGo] at hans
        have HKE := Lib.hid hke
        clear hke
        by_cases hkf : fr = k
        · subst hkf
          rw [Nat.sub_self, List.take_zero] at hans
          have e : ANS = false := by rw [← hans]; rfl
          subst e
          go_wp2_with fail
          go_ret
          exact ⟨rfl, rfl⟩
        · have b1 : ((k : Int) == (fr : Int)) = false := by rw [beq_eq_false_iff_ne]; omega
          have hnc := numB_cut s fr k (by omega) hkl hdig
          rw [hnc] at hans
          obtain ⟨y, hy⟩ : ∃ y, s[fr]'(by omega) = y := ⟨_, rfl⟩
          rw [hy] at hans
          have hby : ∀ h', (⟨s.toArray⟩ : ByteArray)[fr]'h' = y := fun h' => hy
          have yb : ((y.toNat : Int) == 48) = (y == 48) := (beq_nat _ 48).trans (u8_beq y 48 (by decide)).symm
          have ub : decide ((fr : Int) + 1 < (k : Int)) = decide (fr + 1 < k) := decide_eq_decide.2 (by omega)
          have i1 : (fr : Int) < (s.length : Int) := by omega
          generalize (y == 48) = q at yb hans
          generalize decide (fr + 1 < k) = u at ub hans
          clear hnc hdig hy
          have HS := Lib.hid hans
          clear hans
          cases q <;> cases u
          · have e := HS.out
            have HE := Lib.hid e
            clear e HS
            go_wp2_with fail
            go_roundw
            case rel => exact ⟨⟨k + 1, k + 1, p, rfl, by go_num, by go_num, by omega, by omega, by have := HKE.out; omega, .inr ⟨by have := HKE.out; omega, by rw [← HE.out]; simp⟩⟩, trivial⟩
            case measure => simp [RowKit.intOf]; omega
          · have e := HS.out
            have HE := Lib.hid e
            clear e HS
            go_wp2_with fail
            go_roundw
            case rel => exact ⟨⟨k + 1, k + 1, p, rfl, by go_num, by go_num, by omega, by omega, by have := HKE.out; omega, .inr ⟨by have := HKE.out; omega, by rw [← HE.out]; simp⟩⟩, trivial⟩
            case measure => simp [RowKit.intOf]; omega
          · have e := HS.out
            have HE := Lib.hid e
            clear e HS
            go_wp2_with fail
            go_roundw
            case rel => exact ⟨⟨k + 1, k + 1, p, rfl, by go_num, by go_num, by omega, by omega, by have := HKE.out; omega, .inr ⟨by have := HKE.out; omega, by rw [← HE.out]; simp⟩⟩, trivial⟩
            case measure => simp [RowKit.intOf]; omega
          · have e : ANS = false := by rw [← HS.out]; rfl
            subst e
            go_wp2_with fail
            go_ret
            exact ⟨rfl, rfl⟩
    · have g1 : decide ((k : Int) ≤ (s.length : Int)) = false := decide_eq_false (by omega)
      have g3 : decide ((0 : Int) < (p : Int)) = ANS := by rw [← hans]; exact decide_eq_decide.2 (by omega)
      have g4 : ¬ k ≤ s.length := by omega
      clear g1 g3 hke
      go_wp2_with fail
      go_ret
      exact ⟨by rw [← hans]; rfl, rfl⟩
end Go.Proofs.YtegigcneimjimaaGreatDoor
