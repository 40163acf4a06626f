/- RfX. -/
import Derived.StillTailTactics
import Derived.Test.YtegigcneimjimaaGreatDoorU8
namespace Go.Proofs.YtegigcneimjimaaGreatDoor
open Go.RowKit Go.Lib
set_option maxRecDepth 100000
set_option maxHeartbeats 16000000
theorem rletter_any (c : UInt8) (w : World) :
    Calls Tryz.prog 213 #[.int .u8 (c.toNat : Int)] w fun e w' => e = .returned (.bool (letB c)) ∧ w = w' := by
  unfold letB
  obtain ⟨n, hn⟩ : ∃ n, c.toNat = n := ⟨_, rfl⟩
  rw [hn]
  clear hn
  have h0 : decide ((97 : Int) ≤ (n : Int)) = decide (97 ≤ n) := dec_le 97 n
  have h1 : decide ((n : Int) ≤ (122 : Int)) = decide (n ≤ 122) := dec_le n 122
  have h2 : decide ((65 : Int) ≤ (n : Int)) = decide (65 ≤ n) := dec_le 65 n
  have h3 : decide ((n : Int) ≤ (90 : Int)) = decide (n ≤ 90) := dec_le n 90
  generalize decide (97 ≤ n) = p at h0 ⊢
  generalize decide (n ≤ 122) = q at h1 ⊢
  generalize decide (65 ≤ n) = r at h2 ⊢
  generalize decide (n ≤ 90) = t at h3 ⊢
  cases p <;> cases q <;> cases r <;> cases t <;> (go_enter Tryz.func213, Tryz.ntmps213; go_wp2; go_ret; exact ⟨rfl, rfl⟩)
theorem rdigit_any (c : UInt8) (w : World) :
    Calls Tryz.prog 214 #[.int .u8 (c.toNat : Int)] w fun e w' => e = .returned (.bool (digB c)) ∧ w = w' := by
  unfold digB
  obtain ⟨n, hn⟩ : ∃ n, c.toNat = n := ⟨_, rfl⟩
  rw [hn]
  clear hn
  have h0 : decide ((48 : Int) ≤ (n : Int)) = decide (48 ≤ n) := dec_le 48 n
  have h1 : decide ((n : Int) ≤ (57 : Int)) = decide (n ≤ 57) := dec_le n 57
  generalize decide (48 ≤ n) = p at h0 ⊢
  generalize decide (n ≤ 57) = q at h1 ⊢
  cases p <;> cases q <;> (go_enter Tryz.func214, Tryz.ntmps214; go_wp2; go_ret; exact ⟨rfl, rfl⟩)
def NRel (s : List UInt8) (ANS : Bool) (pv fv iv : Value) : Prop :=
  ∃ k fr p : Nat, pv = .int .i64 (p : Int) ∧ fv = .int .i64 (fr : Int) ∧ iv = .int .i64 (k : Int) ∧ p ≤ k ∧ fr ≤ k ∧ k ≤ s.length + 1 ∧
    ((k ≤ s.length ∧ ((s.drop fr).take (k - fr)).all digB = true ∧ numGo (s.drop k) ((s.drop fr).take (k - fr)) p = ANS) ∨ (k = s.length + 1 ∧ decide (0 < p) = ANS))
theorem cut_len (s : List UInt8) (fr k : Nat) (h : fr ≤ k) (hk : k ≤ s.length) : ((s.drop fr).take (k - fr)).length = k - fr := by
  rw [List.length_take, List.length_drop]; omega
theorem cut_more (s : List UInt8) (fr k : Nat) (h : fr ≤ k) (hk : k < s.length) : (s.drop fr).take (k + 1 - fr) = (s.drop fr).take (k - fr) ++ [s[k]] := by
  have e : k + 1 - fr = (k - fr) + 1 := by omega
  rw [e, List.take_add_one, List.getElem?_drop, show fr + (k - fr) = k by omega, List.getElem?_eq_getElem hk]
  rfl
theorem cut_head (s : List UInt8) (fr k : Nat) (h : fr < k) (hk : k ≤ s.length) : ((s.drop fr).take (k - fr)).getD 0 0 = s[fr]'(by omega) := by
  rw [List.getD_eq_getElem?_getD, List.getElem?_take_of_lt (by omega), List.getElem?_drop, Nat.add_zero, List.getElem?_eq_getElem (by omega)]
  rfl
theorem numB_cut (s : List UInt8) (fr k : Nat) (h : fr < k) (hk : k ≤ s.length) (hd : ((s.drop fr).take (k - fr)).all digB = true) :
    numB ((s.drop fr).take (k - fr)) = !(decide (fr + 1 < k) && (s[fr]'(by omega)) == 48) := by
  have hl := cut_len s fr k (by omega) hk
  have hh := cut_head s fr k h hk
  unfold numB
  rw [hd, hh, hl, Bool.and_true]
  have e1 : ((s.drop fr).take (k - fr)).isEmpty = false := by
    cases hq : (s.drop fr).take (k - fr) with
    | nil => rw [hq] at hl; simp at hl; omega
    | cons a b => rfl
  have e2 : decide (1 < k - fr) = decide (fr + 1 < k) := decide_eq_decide.2 (by omega)
  rw [e1, e2]
  rfl
theorem Numbers_any (s : List UInt8) (w : World) (hs : s.length ≤ 1099511627776) :
    Calls Tryz.prog 215 #[.string ⟨s.toArray⟩] w fun e w' => e = .returned (.bool (oidB s)) ∧ w = w' := by
  rw [oid_numGo]
  obtain ⟨ANS, hA⟩ : ∃ ANS, numGo s [] 0 = ANS := ⟨_, rfl⟩
  rw [hA]
  have HA := Lib.hid hA
  clear hA
  go_enter Tryz.func215, Tryz.ntmps215
  go_wp2_with fail
  go_loopw [3, 4, 5] (fun p f i wr => NRel s ANS p f i ∧ w = wr) (fun _ _ i _ => s.length + 2 - (RowKit.intOf i).toNat)
  case atStart => exact ⟨⟨0, 0, 0, rfl, rfl, rfl, by omega, by omega, by omega, .inl ⟨by omega, rfl, HA.out⟩⟩, rfl⟩
  case round =>
    clear HA
    obtain ⟨⟨k, fr, p, rfl, rfl, rfl, hp, hfr, hk, hst⟩, rfl⟩ := hrel
    rcases hst with ⟨hkl, hdig, hans⟩ | ⟨hke, hans⟩
    · have g1 : decide ((k : Int) ≤ (s.length : Int)) = true := decide_eq_true (by omega)
      by_cases hlt : k < s.length
      · have g2 : decide ((k : Int) < (s.length : Int)) = true := decide_eq_true (by omega)
        obtain ⟨x, hx⟩ : ∃ x, s[k] = x := ⟨_, rfl⟩
        have hbx : ∀ h', (⟨s.toArray⟩ : ByteArray)[k]'h' = x := fun h' => hx
        have kd := rdigit_any x w
        rw [List.drop_eq_getElem_cons hlt, hx, numGo] at hans
        cases hd : digB x with
        | true =>
          rw [hd] at kd hans
          rw [if_pos rfl] at hans
          have hc := cut_more s fr k hfr hlt
          rw [hx] at hc
          rw [← hc] at hans
          have hdig2 : ((s.drop fr).take (k + 1 - fr)).all digB = true := by rw [hc]; simp [hdig, hd]
          have H1 := Lib.hid hans
          have H2 := Lib.hid hdig2
          clear hans hdig2 hc hdig hx
          go_wp2_with (go_at_call 214; refine Calls.mono (show Calls _ _ _ _ _ from kd) ?_; rintro e w' ⟨rfl, rfl⟩)
          go_roundw
          case rel => exact ⟨⟨k + 1, fr, p, rfl, rfl, by go_num, by omega, by omega, by omega, .inl ⟨by omega, H2.out, H1.out⟩⟩, trivial⟩
          case measure => simp [RowKit.intOf]; omega
        | false =>
          rw [hd] at kd hans
          rw [if_neg (by simp)] at hans
          by_cases hkf : fr = k
          · subst hkf
            rw [Nat.sub_self, List.take_zero] at hans
            rw [if_neg (by simp [numB])] at hans
            have e : ANS = false := hans.symm
            subst e
            go_wp2_with (go_at_call 214; refine Calls.mono (show Calls _ _ _ _ _ from kd) ?_; rintro e w' ⟨rfl, rfl⟩)
            go_ret
            exact ⟨rfl, rfl⟩
          · have b1 : ((k : Int) == (fr : Int)) = false := by rw [beq_eq_false_iff_ne]; omega
            have hnc := numB_cut s fr k (by omega) hkl hdig
            rw [hnc] at hans
            obtain ⟨y, hy⟩ : ∃ y, s[fr]'(by omega) = y := ⟨_, rfl⟩
            rw [hy] at hans
            have hby : ∀ h', (⟨s.toArray⟩ : ByteArray)[fr]'h' = y := fun h' => hy
            have yb : ((y.toNat : Int) == 48) = (y == 48) := (beq_nat _ 48).trans (u8_beq y 48 (by decide)).symm
            have ub : decide ((fr : Int) + 1 < (k : Int)) = decide (fr + 1 < k) := decide_eq_decide.2 (by omega)
            have i1 : (fr : Int) < (s.length : Int) := by omega
            generalize (y == 48) = q at yb hans
            generalize decide (fr + 1 < k) = u at ub hans
            clear hnc hdig hy
            have xb : ((x.toNat : Int) == 46) = (x == 46) := (beq_nat _ 46).trans (u8_beq x 46 (by decide)).symm
            generalize (x == 46) = c at xb hans
            have HS := Lib.hid hans
            clear hans
            cases q <;> cases u
            · cases c
              · have e : ANS = false := by rw [← HS.out]; rfl
                subst e
                go_wp2_with (go_at_call 214; refine Calls.mono (show Calls _ _ _ _ _ from kd) ?_; rintro e w' ⟨rfl, rfl⟩)
                go_ret
                exact ⟨rfl, rfl⟩
              · go_wp2_with (go_at_call 214; refine Calls.mono (show Calls _ _ _ _ _ from kd) ?_; rintro e w' ⟨rfl, rfl⟩)
                go_roundw
                case rel => exact ⟨⟨k + 1, k + 1, p + 1, by go_num, by go_num, by go_num, by omega, by omega, by omega, .inl ⟨by omega, by simp, by rw [← HS.out]; simp⟩⟩, trivial⟩
                case measure => simp [RowKit.intOf]; omega
            · cases c
              · have e : ANS = false := by rw [← HS.out]; rfl
                subst e
                go_wp2_with (go_at_call 214; refine Calls.mono (show Calls _ _ _ _ _ from kd) ?_; rintro e w' ⟨rfl, rfl⟩)
                go_ret
                exact ⟨rfl, rfl⟩
              · go_wp2_with (go_at_call 214; refine Calls.mono (show Calls _ _ _ _ _ from kd) ?_; rintro e w' ⟨rfl, rfl⟩)
                go_roundw
                case rel => exact ⟨⟨k + 1, k + 1, p + 1, by go_num, by go_num, by go_num, by omega, by omega, by omega, .inl ⟨by omega, by simp, by rw [← HS.out]; simp⟩⟩, trivial⟩
                case measure => simp [RowKit.intOf]; omega
            · cases c
              · have e : ANS = false := by rw [← HS.out]; rfl
                subst e
                go_wp2_with (go_at_call 214; refine Calls.mono (show Calls _ _ _ _ _ from kd) ?_; rintro e w' ⟨rfl, rfl⟩)
                go_ret
                exact ⟨rfl, rfl⟩
              · go_wp2_with (go_at_call 214; refine Calls.mono (show Calls _ _ _ _ _ from kd) ?_; rintro e w' ⟨rfl, rfl⟩)
                go_roundw
                case rel => exact ⟨⟨k + 1, k + 1, p + 1, by go_num, by go_num, by go_num, by omega, by omega, by omega, .inl ⟨by omega, by simp, by rw [← HS.out]; simp⟩⟩, trivial⟩
                case measure => simp [RowKit.intOf]; omega
            · have e : ANS = false := by rw [← HS.out]; rfl
              subst e
              go_wp2_with (go_at_call 214; refine Calls.mono (show Calls _ _ _ _ _ from kd) ?_; rintro e w' ⟨rfl, rfl⟩)
              go_ret
              exact ⟨rfl, rfl⟩
      · have hke : k = s.length := by omega
        have g2 : decide ((k : Int) < (s.length : Int)) = false := decide_eq_false (by omega)
        rw [List.drop_of_length_le (by omega), numGo] at hans
        have HKE := Lib.hid hke
        clear hke
        by_cases hkf : fr = k
        · subst hkf
          rw [Nat.sub_self, List.take_zero] at hans
          have e : ANS = false := by rw [← hans]; rfl
          subst e
          go_wp2_with fail
          go_ret
          exact ⟨rfl, rfl⟩
        · have b1 : ((k : Int) == (fr : Int)) = false := by rw [beq_eq_false_iff_ne]; omega
          have hnc := numB_cut s fr k (by omega) hkl hdig
          rw [hnc] at hans
          obtain ⟨y, hy⟩ : ∃ y, s[fr]'(by omega) = y := ⟨_, rfl⟩
          rw [hy] at hans
          have hby : ∀ h', (⟨s.toArray⟩ : ByteArray)[fr]'h' = y := fun h' => hy
          have yb : ((y.toNat : Int) == 48) = (y == 48) := (beq_nat _ 48).trans (u8_beq y 48 (by decide)).symm
          have ub : decide ((fr : Int) + 1 < (k : Int)) = decide (fr + 1 < k) := decide_eq_decide.2 (by omega)
          have i1 : (fr : Int) < (s.length : Int) := by omega
          generalize (y == 48) = q at yb hans
          generalize decide (fr + 1 < k) = u at ub hans
          clear hnc hdig hy
          have HS := Lib.hid hans
          clear hans
          cases q <;> cases u
          · have e := HS.out
            have HE := Lib.hid e
            clear e HS
            go_wp2_with fail
            go_roundw
            case rel => exact ⟨⟨k + 1, k + 1, p, rfl, by go_num, by go_num, by omega, by omega, by have := HKE.out; omega, .inr ⟨by have := HKE.out; omega, by rw [← HE.out]; simp⟩⟩, trivial⟩
            case measure => simp [RowKit.intOf]; omega
          · have e := HS.out
            have HE := Lib.hid e
            clear e HS
            go_wp2_with fail
            go_roundw
            case rel => exact ⟨⟨k + 1, k + 1, p, rfl, by go_num, by go_num, by omega, by omega, by have := HKE.out; omega, .inr ⟨by have := HKE.out; omega, by rw [← HE.out]; simp⟩⟩, trivial⟩
            case measure => simp [RowKit.intOf]; omega
          · have e := HS.out
            have HE := Lib.hid e
            clear e HS
            go_wp2_with fail
            go_roundw
            case rel => exact ⟨⟨k + 1, k + 1, p, rfl, by go_num, by go_num, by omega, by omega, by have := HKE.out; omega, .inr ⟨by have := HKE.out; omega, by rw [← HE.out]; simp⟩⟩, trivial⟩
            case measure => simp [RowKit.intOf]; omega
          · have e : ANS = false := by rw [← HS.out]; rfl
            subst e
            go_wp2_with fail
            go_ret
            exact ⟨rfl, rfl⟩
    · have g1 : decide ((k : Int) ≤ (s.length : Int)) = false := decide_eq_false (by omega)
      have g3 : decide ((0 : Int) < (p : Int)) = ANS := by rw [← hans]; exact decide_eq_decide.2 (by omega)
      have g4 : ¬ k ≤ s.length := by omega
      clear g1 g3 hke
      go_wp2_with fail
      go_ret
      exact ⟨by rw [← hans]; rfl, rfl⟩
theorem ty_byte (c : UInt8) : (inTyB c && c != 46) = (letB c || digB c || c == 45) := by
  have : ∀ i : Fin 256, (inTyB (UInt8.ofNat i.val) && UInt8.ofNat i.val != 46) = (letB (UInt8.ofNat i.val) || digB (UInt8.ofNat i.val) || UInt8.ofNat i.val == 45) := by decide +kernel
  have h := this ⟨c.toNat, UInt8.toNat_lt c⟩
  simpa using h
theorem RIsType_any (s : List UInt8) (w : World) (hs : s.length ≤ 1099511627776) :
    Calls Tryz.prog 128 #[.string ⟨s.toArray⟩] w fun e w' => e = .returned (.bool (isTyB s)) ∧ w = w' := by
  unfold isTyB
  by_cases h0 : s = []
  · subst h0
    rw [if_pos (.inl rfl)]
    go_enter Tryz.func128, Tryz.ntmps128
    go_wp2
    go_ret
    exact ⟨rfl, rfl⟩
  · have hl : 0 < s.length := by cases s <;> simp_all
    have q0 : decide ((s.length : Int) < 1) = false := decide_eq_false (by omega)
    by_cases h64 : 64 < s.length
    · rw [if_pos (.inr h64)]
      have q1 : decide ((64 : Int) < (s.length : Int)) = true := decide_eq_true (by omega)
      go_enter Tryz.func128, Tryz.ntmps128
      go_wp2
      go_ret
      exact ⟨rfl, rfl⟩
    · rw [if_neg (by rintro (h | h); exact h0 h; exact h64 h)]
      have q1 : decide ((64 : Int) < (s.length : Int)) = false := decide_eq_false (by omega)
      have hg0 : s.getD 0 0 = s[0] := by simp [hl]
      have k1 := rletter_any s[0] w
      rw [hg0]
      generalize letB s[0] = p at k1 ⊢
      cases p
      · rw [if_neg (by simp)]
        have k2 := Numbers_any s w (by omega)
        go_enter Tryz.func128, Tryz.ntmps128
        go_wp2_with (first | (go_at_call 213; refine Calls.mono (show Calls _ _ _ _ _ from k1) ?_; rintro e w' ⟨rfl, rfl⟩) | (go_at_call 215; refine k2.mono ?_; rintro e w2 ⟨rfl, rfl⟩))
        go_ret
        exact ⟨rfl, rfl⟩
      · rw [if_pos rfl]
        simp only [ty_byte]
        obtain ⟨ANS, hA⟩ : ∃ ANS, s.all (fun c => letB c || digB c || c == 45) = ANS := ⟨_, rfl⟩
        rw [hA]
        have HA := Lib.hid hA
        clear hA
        go_enter Tryz.func128, Tryz.ntmps128
        go_wp2_with (go_at_call 213; refine Calls.mono (show Calls _ _ _ _ _ from k1) ?_; rintro e w' ⟨rfl, rfl⟩)
        go_loopw [3] (fun i wr => ∃ k : Nat, i = .int .i64 (k : Int) ∧ k ≤ s.length ∧ w = wr ∧ (s.drop k).all (fun c => letB c || digB c || c == 45) = ANS) (fun i _ => s.length - (RowKit.intOf i).toNat)
        case atStart => exact ⟨0, rfl, by omega, rfl, HA.out⟩
        case round =>
          obtain ⟨k, rfl, hk, rfl, hans⟩ := hrel
          clear HA
          by_cases hkl : k < s.length
          · rw [List.drop_eq_getElem_cons hkl, List.all_cons] at hans
            have k3 := rletter_any s[k] w
            have k4 := rdigit_any s[k] w
            have hq : (((((⟨s.toArray⟩ : ByteArray)[k]'(by rw [Lib.size_mk]; omega)).toNat : Int)) == 45) = (s[k] == 45) := by
              show (((s[k]).toNat : Int) == 45) = _
              exact (beq_nat _ 45).trans (u8_beq s[k] 45 (by decide)).symm
            have gd : decide ((k : Int) < (s.length : Int)) = true := decide_eq_true (by omega)
            generalize (s[k] == 45) = q at hq hans
            generalize letB s[k] = p at k3 hans
            generalize digB s[k] = d at k4 hans
            have HS := Lib.hid hans
            clear hans
            by_cases hb : (p || d || q) = true
            · have h2 : (s.drop (k + 1)).all (fun c => letB c || digB c || c == 45) = ANS := by rw [← HS.out, hb, Bool.true_and]
              have HS2 := Lib.hid h2
              clear h2 HS
              cases p <;> cases d <;> cases q <;> first | (exfalso; revert hb; decide) | skip
              all_goals
                clear hb
                go_wp2_with (first | (go_at_call 213; refine Calls.mono (show Calls _ _ _ _ _ from k3) ?_; rintro e w' ⟨rfl, rfl⟩) | (go_at_call 214; refine Calls.mono (show Calls _ _ _ _ _ from k4) ?_; rintro e w' ⟨rfl, rfl⟩))
                go_roundw
                case rel => exact ⟨k + 1, by go_num, by omega, trivial, HS2.out⟩
                case measure => simp [RowKit.intOf]; omega
            · have hb2 : (p || d || q) = false := by simpa using hb
              have e : ANS = false := by rw [← HS.out, hb2, Bool.false_and]
              subst e
              clear HS hb
              cases p <;> cases d <;> cases q <;> first | (exfalso; revert hb2; decide) | skip
              all_goals
                clear hb2
                go_wp2_with (first | (go_at_call 213; refine Calls.mono (show Calls _ _ _ _ _ from k3) ?_; rintro e w' ⟨rfl, rfl⟩) | (go_at_call 214; refine Calls.mono (show Calls _ _ _ _ _ from k4) ?_; rintro e w' ⟨rfl, rfl⟩))
                go_ret
                exact ⟨rfl, rfl⟩
          · have e : ANS = true := by rw [← hans, List.drop_of_length_le (by omega)]; rfl
            subst e
            have gd : ¬ k < s.length := hkl
            clear hans
            go_wp2_with fail
            go_ret
            exact ⟨rfl, rfl⟩
theorem indexByte_at : ∀ (l : List UInt8) (c : UInt8) (k : Nat), (∀ j, j < k → l[j]? ≠ some c) → l[k]? = some c → indexByte l c = k
  | [], c, k, _, h => by simp at h
  | b :: l, c, 0, _, h => by simp at h; subst h; simp [indexByte]
  | b :: l, c, k + 1, h0, h => by
    have hb : (b == c) = false := by have := h0 0 (by omega); simpa using this
    have ih := indexByte_at l c k (fun j hj => by have := h0 (j + 1) (by omega); simpa using this) (by simpa using h)
    unfold indexByte
    rw [ih, hb, if_neg (by simp), if_neg (by simp)]
    rfl
theorem indexByte_no (l : List UInt8) (c : UInt8) (h : ∀ j, j < l.length → l[j]? ≠ some c) : indexByte l c = -1 := by
  induction l with
  | nil => rfl
  | cons b l ih =>
    have hb : (b == c) = false := by have := h 0 (by simp); simpa using this
    have := ih (fun j hj => by have := h (j + 1) (by simp; omega); simpa using this)
    unfold indexByte
    rw [this, hb]
    rfl
def tabA : ByteArray := ⟨#[65, 66, 67, 68, 69, 70, 71, 72, 73, 74, 75, 76, 77, 78, 79, 80, 81, 82, 83, 84, 85, 86, 87, 88, 89, 90, 97, 98, 99, 100, 101, 102, 103, 104, 105, 106, 107, 108, 109, 110, 111, 112, 113, 114, 115, 116, 117, 118, 119, 120, 121, 122, 48, 49, 50, 51, 52, 53, 54, 55, 56, 57, 43, 47]⟩
theorem tab_get (n : Nat) (hn : n < 64) (h : n < tabA.size) : tabA[n]'h = dig n := by
  rw [dig, List.getD_eq_getElem?_getD]
  show tab64[n]'hn = _
  rw [List.getElem?_eq_getElem hn]
  rfl
theorem dig_get (n : Nat) (hn : n < 64) : tab64[n]? = some (dig n) := by
  rw [dig, List.getD_eq_getElem?_getD, List.getElem?_eq_getElem hn]
  rfl
theorem cells_new (w : World) (xs : List Value) (t : TypeId) : ∀ j u, xs[j]? = some u → (w.alloc (.cells xs.toArray t)).cell? ((⟨w.heap.size, 0, none⟩ : Addr).add j) = some u := by
  intro j u hj
  rw [Addr.add_lit, Nat.zero_add]
  have hb : (w.alloc (.cells xs.toArray t)).heap[w.heap.size]? = some (.cells xs.toArray t (0, 0)) := by show (w.heap.push _)[w.heap.size]? = _; simp
  rw [Lib.cell_of_heap hb]
  simpa using hj
def R3q (r : List UInt8) (v n k : Value) : Prop := ∃ j : Nat, k = .int .i64 (j : Int) ∧ j ≤ 3 ∧ v = .int .i64 (xr r j : Nat) ∧ n = .int .i64 ((min j r.length : Nat) : Int)
def RRel (w : World) (l ANS : List UInt8) (v i : Value) (wr : World) : Prop :=
  ∃ (k : Nat) (o : List UInt8), i = .int .i64 (k : Int) ∧ k ≤ l.length + 2 ∧ o.length ≤ 2 * k ∧ wr.ownsRow w.heap.size 5 1 v o.length (bV o) ∧ Below w.heap.size w wr ∧ o ++ b64 (l.drop k) = ANS
theorem RBase64_any (l : List UInt8) (w : World) (hl : l.length ≤ 1099511627776) :
    Calls Tryz.prog 232 #[.string ⟨l.toArray⟩] w fun e w' => e = .returned (.string ⟨(b64 l).toArray⟩) ∧ Below w.heap.size w w' := by
  obtain ⟨ANS, hN⟩ : ∃ ANS, b64 l = ANS := ⟨_, rfl⟩
  rw [hN]
  have HN := Lib.hid hN
  clear hN
  go_enter Tryz.func232, Tryz.ntmps232
  go_wp2_with fail
  go_loopw [3, 4] (fun v i wr => RRel w l ANS v i wr) (fun _ i _ => (l.length - (RowKit.intOf i).toNat))
  case atStart => exact ⟨0, [], rfl, by omega, by simp, World.ownsRow_nil _ _ _ _, Below.refl _ _, HN.out⟩
  case round =>
    obtain ⟨k, o, rfl, hk, ho, hown, hbe, hans⟩ := hrel
    have HA := Lib.hid hans
    clear hans HN
    by_cases hkl : k < l.length
    · obtain ⟨r, hr⟩ : ∃ r, l.drop k = r := ⟨_, rfl⟩
      have hrl : r.length = l.length - k := by rw [← hr, List.length_drop]
      have hr0 : r ≠ [] := by intro h; rw [h] at hrl; simp at hrl; omega
      have hget : ∀ (j : Nat) (h : k + j < (⟨l.toArray⟩ : ByteArray).size) (h2 : j < r.length), (⟨l.toArray⟩ : ByteArray)[k + j]'h = r.getD j 0 := by
        intro j h h2
        show l[k + j]'(by rw [Lib.size_mk] at h; exact h) = _
        rw [List.getD_eq_getElem?_getD, ← hr, List.getElem?_drop, List.getElem?_eq_getElem]
        rfl
      have HR := Lib.hid hr
      clear hr
      go_wp2_with fail
      go_loop [5, 6, 7] (fun v n k => R3q r v n k) (fun _ _ k => (3 - RowKit.intOf k).toNat)
      case atStart => exact ⟨0, rfl, by omega, rfl, by simp⟩
      case round =>
        obtain ⟨j, rfl, hj, rfl, rfl⟩ := hrel
        by_cases hj3 : j < 3
        · have hx1 := xr_lt r j
          have h2 : 256 ^ j ≤ 256 ^ 2 := Nat.pow_le_pow_right (by omega) (by omega)
          have hxs : xr r (j + 1) = xr r j * 256 + (r.getD j 0).toNat := rfl
          have hb := UInt8.toNat_lt (r.getD j 0)
          by_cases hjr : j < r.length
          · have hg := hget j (by rw [Lib.size_mk]; omega) hjr
            obtain ⟨x, hx⟩ : ∃ x, r.getD j 0 = x := ⟨_, rfl⟩
            rw [hx] at hg hxs hb
            obtain ⟨X, hX⟩ : ∃ X, xr r j = X := ⟨_, rfl⟩
            rw [hX] at hxs hx1 ⊢
            obtain ⟨m, hm⟩ : ∃ m, min j r.length = m := ⟨_, rfl⟩
            rw [hm]
            have hmj : m = j := by omega
            clear hm hX hx
            have HX := Lib.hid hxs
            clear hxs
            go_wp2_with fail
            refine ⟨⟨j + 1, by go_num, by omega, ?_, ?_⟩, ?_⟩
            · rw [HX.out]; simp
            · rw [show min (j + 1) r.length = j + 1 by omega]; rfl
            · simp [RowKit.intOf]; omega
          · have hx : (r.getD j 0) = 0 := by rw [List.getD_eq_getElem?_getD, List.getElem?_eq_none (by omega)]; rfl
            rw [hx] at hxs hb
            obtain ⟨X, hX⟩ : ∃ X, xr r j = X := ⟨_, rfl⟩
            rw [hX] at hxs hx1 ⊢
            obtain ⟨m, hm⟩ : ∃ m, min j r.length = m := ⟨_, rfl⟩
            rw [hm]
            have hmj : min (j + 1) r.length = m := by omega
            have HM := Lib.hid hmj
            clear hm hX hx hmj
            have HX := Lib.hid hxs
            clear hxs
            go_wp2_with fail
            refine ⟨⟨j + 1, by go_num, by omega, ?_, ?_⟩, ?_⟩
            · rw [HX.out]; simp
            · rw [HM.out]
            · simp [RowKit.intOf]; omega
        · obtain rfl : j = 3 := by omega
          have hX := xr_lt r 3
          have hqd : ∀ i, qd r i = if r.length < i then 61 else dig (xr r 3 / 2 ^ (18 - 6 * i) % 64) := fun i => rfl
          obtain ⟨X, hXe⟩ : ∃ X, xr r 3 = X := ⟨_, rfl⟩
          simp only [hXe] at hX hqd ⊢
          obtain ⟨n0, hn0⟩ : ∃ n, X / 262144 = n := ⟨_, rfl⟩
          obtain ⟨m1, hm1⟩ : ∃ n, X / 4096 = n := ⟨_, rfl⟩
          obtain ⟨m2, hm2⟩ : ∃ n, X / 64 = n := ⟨_, rfl⟩
          obtain ⟨n1, hn1⟩ : ∃ n, m1 % 64 = n := ⟨_, rfl⟩
          obtain ⟨n2, hn2⟩ : ∃ n, m2 % 64 = n := ⟨_, rfl⟩
          obtain ⟨n3, hn3⟩ : ∃ n, X % 64 = n := ⟨_, rfl⟩
          have e0 : (X : Int) / 262144 = (n0 : Int) := by omega
          have e1 : (X : Int) / 4096 = (m1 : Int) := by omega
          have e2 : (X : Int) / 64 = (m2 : Int) := by omega
          have e3 : (X : Int) % 64 = (n3 : Int) := by omega
          have e4 : (m1 : Int) % 64 = (n1 : Int) := by omega
          have e5 : (m2 : Int) % 64 = (n2 : Int) := by omega
          have t1 : Int.tmod (m1 : Int) 64 = (n1 : Int) := by rw [Int.tmod_eq_emod_of_nonneg (by omega)]; omega
          have t2 : Int.tmod (m2 : Int) 64 = (n2 : Int) := by rw [Int.tmod_eq_emod_of_nonneg (by omega)]; omega
          have t3 : Int.tmod (X : Int) 64 = (n3 : Int) := by rw [Int.tmod_eq_emod_of_nonneg (by omega)]; omega
          have b0 : (n0 : Int) < 64 := by omega
          have b1 : (n1 : Int) < 64 := by omega
          have b2 : (n2 : Int) < 64 := by omega
          have b3 : (n3 : Int) < 64 := by omega
          have w0 : IntKind.i64.wrap (n0 : Int) = (n0 : Int) := wraps_i64 _ (by omega) (by omega)
          have w1 : IntKind.i64.wrap (n1 : Int) = (n1 : Int) := wraps_i64 _ (by omega) (by omega)
          have w2 : IntKind.i64.wrap (n2 : Int) = (n2 : Int) := wraps_i64 _ (by omega) (by omega)
          have w3 : IntKind.i64.wrap (n3 : Int) = (n3 : Int) := wraps_i64 _ (by omega) (by omega)
          have w4 : IntKind.i64.wrap (m1 : Int) = (m1 : Int) := wraps_i64 _ (by omega) (by omega)
          have w5 : IntKind.i64.wrap (m2 : Int) = (m2 : Int) := wraps_i64 _ (by omega) (by omega)
          have hl0 : ∀ h, (⟨#[65, 66, 67, 68, 69, 70, 71, 72, 73, 74, 75, 76, 77, 78, 79, 80, 81, 82, 83, 84, 85, 86, 87, 88, 89, 90, 97, 98, 99, 100, 101, 102, 103, 104, 105, 106, 107, 108, 109, 110, 111, 112, 113, 114, 115, 116, 117, 118, 119, 120, 121, 122, 48, 49, 50, 51, 52, 53, 54, 55, 56, 57, 43, 47]⟩ : ByteArray)[n0]'h = dig n0 := fun h => tab_get n0 (by omega) h
          have hl1 : ∀ h, (⟨#[65, 66, 67, 68, 69, 70, 71, 72, 73, 74, 75, 76, 77, 78, 79, 80, 81, 82, 83, 84, 85, 86, 87, 88, 89, 90, 97, 98, 99, 100, 101, 102, 103, 104, 105, 106, 107, 108, 109, 110, 111, 112, 113, 114, 115, 116, 117, 118, 119, 120, 121, 122, 48, 49, 50, 51, 52, 53, 54, 55, 56, 57, 43, 47]⟩ : ByteArray)[n1]'h = dig n1 := fun h => tab_get n1 (by omega) h
          have hl2 : ∀ h, (⟨#[65, 66, 67, 68, 69, 70, 71, 72, 73, 74, 75, 76, 77, 78, 79, 80, 81, 82, 83, 84, 85, 86, 87, 88, 89, 90, 97, 98, 99, 100, 101, 102, 103, 104, 105, 106, 107, 108, 109, 110, 111, 112, 113, 114, 115, 116, 117, 118, 119, 120, 121, 122, 48, 49, 50, 51, 52, 53, 54, 55, 56, 57, 43, 47]⟩ : ByteArray)[n2]'h = dig n2 := fun h => tab_get n2 (by omega) h
          have hl3 : ∀ h, (⟨#[65, 66, 67, 68, 69, 70, 71, 72, 73, 74, 75, 76, 77, 78, 79, 80, 81, 82, 83, 84, 85, 86, 87, 88, 89, 90, 97, 98, 99, 100, 101, 102, 103, 104, 105, 106, 107, 108, 109, 110, 111, 112, 113, 114, 115, 116, 117, 118, 119, 120, 121, 122, 48, 49, 50, 51, 52, 53, 54, 55, 56, 57, 43, 47]⟩ : ByteArray)[n3]'h = dig n3 := fun h => tab_get n3 (by omega) h
          have hq0 : qd r 0 = dig n0 := by rw [hqd, if_neg (by omega)]; congr 1; simp only [Nat.mul_zero, Nat.sub_zero, Nat.reducePow]; omega
          have hq1 : ¬ r.length < 1 → qd r 1 = dig n1 := fun h => by rw [hqd, if_neg h]; congr 1; simp only [Nat.mul_one, Nat.reduceSub, Nat.reducePow]; omega
          have hq2 : ¬ r.length < 2 → qd r 2 = dig n2 := fun h => by rw [hqd, if_neg h]; congr 1; simp only [Nat.reduceMul, Nat.reduceSub, Nat.reducePow]; omega
          have hq3 : ¬ r.length < 3 → qd r 3 = dig n3 := fun h => by rw [hqd, if_neg h]; congr 1; simp only [Nat.reduceMul, Nat.reduceSub, Nat.reducePow]; omega
          have hp2 : r.length < 2 → qd r 2 = 61 := fun h => by rw [hqd, if_pos h]
          have hp3 : r.length < 3 → qd r 3 = 61 := fun h => by rw [hqd, if_pos h]
          have hqr := quad_qd r hr0
          obtain ⟨x0, hx0⟩ : ∃ x, dig n0 = x := ⟨_, rfl⟩
          obtain ⟨x1, hx1⟩ : ∃ x, dig n1 = x := ⟨_, rfl⟩
          obtain ⟨x2, hx2⟩ : ∃ x, dig n2 = x := ⟨_, rfl⟩
          obtain ⟨x3, hx3⟩ : ∃ x, dig n3 = x := ⟨_, rfl⟩
          simp only [hx0] at hl0 hq0
          simp only [hx1] at hl1 hq1
          simp only [hx2] at hl2 hq2
          simp only [hx3] at hl3 hq3
          have hr1 : 1 ≤ r.length := by omega
          have hstep := b64_step r hr0
          have hdrop : r.drop 3 = l.drop (k + 3) := by rw [← HR.out, List.drop_drop]
          rw [hdrop] at hstep
          have hans := HA.out
          rw [HR.out, hstep, ← List.append_assoc] at hans
          have HS := Lib.hid hans
          clear hx0 hx1 hx2 hx3 hqd hXe hn0 hn1 hn2 hn3 hm1 hm2 hans hstep hdrop HA HR
          have hown1 : wr.drew.ownsRow w.heap.size 5 1 u3 o.length (bV o) := hown
          have hbe1 : Below w.heap.size w wr.drew := hbe.drew
          obtain ⟨i0, hi0, hz0, hz1, hz2⟩ := info_parts Tryz.infoByte
          obtain ⟨N, hN⟩ : ∃ N, min 3 r.length = N := ⟨_, rfl⟩
          rw [hN]
          have hN3 : N = 1 ∨ N = 2 ∨ N = 3 := by omega
          rcases hN3 with rfl | rfl | rfl
          · have hqe : quad r = [x0, x1, 61, 61] := by rw [hqr, hq0, hq1 (by omega), hp2 (by omega), hp3 (by omega)]
            have hans := HS.out
            rw [hqe] at hans
            have HS2 := Lib.hid hans
            clear hans hqr hq0 hq1 hq2 hq3 hp2 hp3 HS hqe
            go_wp2_with fail
            go_still_tail 14, (by kernel_rfl)
            change wpList _ _ _ _ _ wr.drew
            generalize wr.drew = wd at hown1 hbe1 ⊢
            clear hown hbe
            have hsz := hbe1.size
            go_wp2_with fail
            go_loopw [9] (fun kv wq => (kv = .int .i64 2 ∧ wq = wd.alloc (.cells #[.int .u8 ((x0 : UInt8).toNat : Int), .int .u8 ((x1 : UInt8).toNat : Int), .int .u8 ((x2 : UInt8).toNat : Int), .int .u8 ((x3 : UInt8).toNat : Int)] 5)) ∨ (kv = .int .i64 3 ∧ wq = wd.alloc (.cells #[.int .u8 ((x0 : UInt8).toNat : Int), .int .u8 ((x1 : UInt8).toNat : Int), .int .u8 ((61 : UInt8).toNat : Int), .int .u8 ((x3 : UInt8).toNat : Int)] 5)) ∨ (kv = .int .i64 4 ∧ wq = wd.alloc (.cells #[.int .u8 ((x0 : UInt8).toNat : Int), .int .u8 ((x1 : UInt8).toNat : Int), .int .u8 ((61 : UInt8).toNat : Int), .int .u8 ((61 : UInt8).toNat : Int)] 5))) (fun kv _ => (4 - RowKit.intOf kv).toNat)
            case atStart => first | exact ⟨rfl, rfl⟩ | exact .inl ⟨rfl, rfl⟩
            case round =>
              rcases hrel with ⟨rfl, rfl⟩ | ⟨rfl, rfl⟩ | ⟨rfl, rfl⟩
              · go_wp2_with fail
                exact ⟨.inr (.inl (⟨rfl, rfl⟩)), by decide⟩
              · go_wp2_with fail
                exact ⟨.inr (.inr (⟨rfl, rfl⟩)), by decide⟩
              · go_wp2_with (at_builtin; refine wpList_append_own _ rfl (.tmp 62) (.tmp 63) 153 rfl w.heap.size 5 i0 (.int .u8 0) 1 1 Tryz.underlying153 hi0 hz0 hz1 hz2 rfl (by decide) u3 o.length (bV o) rfl (hown1.alloc _) ⟨wd.heap.size, 0, none⟩ 4 4 [.int .u8 ((x0 : UInt8).toNat : Int), .int .u8 ((x1 : UInt8).toNat : Int), .int .u8 ((61 : UInt8).toNat : Int), .int .u8 ((61 : UInt8).toNat : Int)] rfl rfl (cells_new wd [.int .u8 ((x0 : UInt8).toNat : Int), .int .u8 ((x1 : UInt8).toNat : Int), .int .u8 ((61 : UInt8).toNat : Int), .int .u8 ((61 : UInt8).toNat : Int)] 5) ?d2 ?d3 ?d4 ?d5 ?_)
                case d2 => intro u hu; simp at hu; rcases hu with rfl | rfl | rfl | rfl <;> rfl
                case d3 => unfold maxLen; omega
                case d4 => omega
                case d5 => simp; omega
                intro v' w3 ho3 hg3 _
                go_wp2_with fail
                go_roundw
                case rel =>
                  refine ⟨k + 3, o ++ [x0, x1, 61, 61], by go_num, by omega, by simp; omega, ?_, ?_, HS2.out⟩
                  · rw [List.length_append, bV_append]
                    exact ho3
                  · exact (hbe1.alloc hsz _).grown hg3 (by simp; omega) (fun b hb => (hown1.lt b hb).1)
                case measure => simp [RowKit.intOf]; omega
          · have hqe : quad r = [x0, x1, x2, 61] := by rw [hqr, hq0, hq1 (by omega), hq2 (by omega), hp3 (by omega)]
            have hans := HS.out
            rw [hqe] at hans
            have HS2 := Lib.hid hans
            clear hans hqr hq0 hq1 hq2 hq3 hp2 hp3 HS hqe
            go_wp2_with fail
            go_still_tail 14, (by kernel_rfl)
            change wpList _ _ _ _ _ wr.drew
            generalize wr.drew = wd at hown1 hbe1 ⊢
            clear hown hbe
            have hsz := hbe1.size
            go_wp2_with fail
            go_loopw [9] (fun kv wq => (kv = .int .i64 3 ∧ wq = wd.alloc (.cells #[.int .u8 ((x0 : UInt8).toNat : Int), .int .u8 ((x1 : UInt8).toNat : Int), .int .u8 ((x2 : UInt8).toNat : Int), .int .u8 ((x3 : UInt8).toNat : Int)] 5)) ∨ (kv = .int .i64 4 ∧ wq = wd.alloc (.cells #[.int .u8 ((x0 : UInt8).toNat : Int), .int .u8 ((x1 : UInt8).toNat : Int), .int .u8 ((x2 : UInt8).toNat : Int), .int .u8 ((61 : UInt8).toNat : Int)] 5))) (fun kv _ => (4 - RowKit.intOf kv).toNat)
            case atStart => first | exact ⟨rfl, rfl⟩ | exact .inl ⟨rfl, rfl⟩
            case round =>
              rcases hrel with ⟨rfl, rfl⟩ | ⟨rfl, rfl⟩
              · go_wp2_with fail
                exact ⟨.inr (⟨rfl, rfl⟩), by decide⟩
              · go_wp2_with (at_builtin; refine wpList_append_own _ rfl (.tmp 62) (.tmp 63) 153 rfl w.heap.size 5 i0 (.int .u8 0) 1 1 Tryz.underlying153 hi0 hz0 hz1 hz2 rfl (by decide) u3 o.length (bV o) rfl (hown1.alloc _) ⟨wd.heap.size, 0, none⟩ 4 4 [.int .u8 ((x0 : UInt8).toNat : Int), .int .u8 ((x1 : UInt8).toNat : Int), .int .u8 ((x2 : UInt8).toNat : Int), .int .u8 ((61 : UInt8).toNat : Int)] rfl rfl (cells_new wd [.int .u8 ((x0 : UInt8).toNat : Int), .int .u8 ((x1 : UInt8).toNat : Int), .int .u8 ((x2 : UInt8).toNat : Int), .int .u8 ((61 : UInt8).toNat : Int)] 5) ?d2 ?d3 ?d4 ?d5 ?_)
                case d2 => intro u hu; simp at hu; rcases hu with rfl | rfl | rfl | rfl <;> rfl
                case d3 => unfold maxLen; omega
                case d4 => omega
                case d5 => simp; omega
                intro v' w3 ho3 hg3 _
                go_wp2_with fail
                go_roundw
                case rel =>
                  refine ⟨k + 3, o ++ [x0, x1, x2, 61], by go_num, by omega, by simp; omega, ?_, ?_, HS2.out⟩
                  · rw [List.length_append, bV_append]
                    exact ho3
                  · exact (hbe1.alloc hsz _).grown hg3 (by simp; omega) (fun b hb => (hown1.lt b hb).1)
                case measure => simp [RowKit.intOf]; omega
          · have hqe : quad r = [x0, x1, x2, x3] := by rw [hqr, hq0, hq1 (by omega), hq2 (by omega), hq3 (by omega)]
            have hans := HS.out
            rw [hqe] at hans
            have HS2 := Lib.hid hans
            clear hans hqr hq0 hq1 hq2 hq3 hp2 hp3 HS hqe
            go_wp2_with fail
            go_still_tail 14, (by kernel_rfl)
            change wpList _ _ _ _ _ wr.drew
            generalize wr.drew = wd at hown1 hbe1 ⊢
            clear hown hbe
            have hsz := hbe1.size
            go_wp2_with fail
            go_loopw [9] (fun kv wq => (kv = .int .i64 4 ∧ wq = wd.alloc (.cells #[.int .u8 ((x0 : UInt8).toNat : Int), .int .u8 ((x1 : UInt8).toNat : Int), .int .u8 ((x2 : UInt8).toNat : Int), .int .u8 ((x3 : UInt8).toNat : Int)] 5))) (fun kv _ => (4 - RowKit.intOf kv).toNat)
            case atStart => first | exact ⟨rfl, rfl⟩ | exact .inl ⟨rfl, rfl⟩
            case round =>
              obtain ⟨rfl, rfl⟩ := hrel
              · go_wp2_with (at_builtin; refine wpList_append_own _ rfl (.tmp 62) (.tmp 63) 153 rfl w.heap.size 5 i0 (.int .u8 0) 1 1 Tryz.underlying153 hi0 hz0 hz1 hz2 rfl (by decide) u3 o.length (bV o) rfl (hown1.alloc _) ⟨wd.heap.size, 0, none⟩ 4 4 [.int .u8 ((x0 : UInt8).toNat : Int), .int .u8 ((x1 : UInt8).toNat : Int), .int .u8 ((x2 : UInt8).toNat : Int), .int .u8 ((x3 : UInt8).toNat : Int)] rfl rfl (cells_new wd [.int .u8 ((x0 : UInt8).toNat : Int), .int .u8 ((x1 : UInt8).toNat : Int), .int .u8 ((x2 : UInt8).toNat : Int), .int .u8 ((x3 : UInt8).toNat : Int)] 5) ?d2 ?d3 ?d4 ?d5 ?_)
                case d2 => intro u hu; simp at hu; rcases hu with rfl | rfl | rfl | rfl <;> rfl
                case d3 => unfold maxLen; omega
                case d4 => omega
                case d5 => simp; omega
                intro v' w3 ho3 hg3 _
                go_wp2_with fail
                go_roundw
                case rel =>
                  refine ⟨k + 3, o ++ [x0, x1, x2, x3], by go_num, by omega, by simp; omega, ?_, ?_, HS2.out⟩
                  · rw [List.length_append, bV_append]
                    exact ho3
                  · exact (hbe1.alloc hsz _).grown hg3 (by simp; omega) (fun b hb => (hown1.lt b hb).1)
                case measure => simp [RowKit.intOf]; omega
    · have hs := HA.out
      rw [List.drop_of_length_le (by omega), b64_nil, List.append_nil] at hs
      subst hs
      have hcv := run_str_own (P := Tryz.prog) wr 153 9 5 w.heap.size u3 o Tryz.underlying153 Tryz.underlying5 Tryz.underlying9 hown
      go_wp2_with fail
      go_ret
      exact ⟨rfl, hbe⟩
theorem below_drwN {B : Nat} {a w : World} (h : Below B a w) (n : Nat) : Below B a (w.drewN n) := ⟨h.os, h.tape, h.output, h.size, h.block⟩
theorem sign_bytes (c : UInt8) : decide (indexByte [32, 58, 60] c < 0) = (!(c.toNat == 32) && !(c.toNat == 58) && !(c.toNat == 60)) := by
  have : ∀ i : Fin 256, decide (indexByte [32, 58, 60] (UInt8.ofNat i.val) < 0) = (!((UInt8.ofNat i.val).toNat == 32) && !((UInt8.ofNat i.val).toNat == 58) && !((UInt8.ofNat i.val).toNat == 60)) := by decide +kernel
  have h := this ⟨c.toNat, UInt8.toNat_lt c⟩
  simpa using h
def LRel (v : List UInt8) (ANS : Bool) (p i : Value) : Prop := ∃ (k : Nat) (b : Bool), i = .int .i64 (k : Int) ∧ k ≤ v.length ∧ p = .bool b ∧ (b && (v.drop k).all okB) = ANS
theorem plain_parts (v : List UInt8) (hl : 0 < v.length) : plainB v = (!(v[0].toNat == 32) && !(v[0].toNat == 58) && !(v[0].toNat == 60) && !((v[v.length - 1]).toNat == 32) && v.all okB) := by
  have e0 : v.getD 0 0 = v[0] := by simp [hl]
  have e1 : v.getD (v.length - 1) 0 = v[v.length - 1] := by rw [List.getD_eq_getElem?_getD, List.getElem?_eq_getElem (by omega)]; rfl
  have hne : v.isEmpty = false := by cases v with | nil => cases hl | cons a t => rfl
  unfold plainB
  rw [e0, e1, hne, sign_bytes]
  have e2 : decide (v[v.length - 1] ≠ 32) = !((v[v.length - 1]).toNat == 32) := by
    rw [Bool.eq_iff_iff]
    simp only [decide_eq_true_eq, Bool.not_eq_true', beq_eq_false_iff_ne, ne_eq]
    constructor
    · intro h e
      exact h (UInt8.toNat.inj (by rw [e]; rfl))
    · intro h e
      rw [e] at h
      exact h rfl
  rw [e2]
  simp
theorem rline_any (name v : List UInt8) (w : World) (hn : name.length ≤ 1099511627776) (hv : v.length ≤ 1099511627776) :
    Calls Tryz.prog 153 #[.string ⟨name.toArray⟩, .string ⟨v.toArray⟩] w fun e w' => e = .returned (.string ⟨(lineB name v).toArray⟩) ∧ Below w.heap.size w w' := by
  have kb := fun W => RBase64_any v W hv
  have hEl : (b64 v).length ≤ 2199023255552 := by
    rw [b64_length v.length v (Nat.le_refl _)]
    omega
  obtain ⟨E, hE⟩ : ∃ E, b64 v = E := ⟨_, rfl⟩
  rw [hE] at hEl
  unfold lineB
  simp only [hE] at kb
  rw [hE]
  obtain ⟨ANS, hA⟩ : ∃ ANS, plainB v = ANS := ⟨_, rfl⟩
  rw [hA]
  have HA := Lib.hid hA
  clear hA hE
  have hM1 : (⟨name.toArray⟩ ++ ⟨#[58, 32]⟩ ++ ⟨v.toArray⟩ ++ ⟨#[10]⟩ : ByteArray) = ⟨(name ++ [58, 32] ++ v ++ [10]).toArray⟩ := by rw [app_mk name, app_mk, app_mk]
  have hM2 : (⟨name.toArray⟩ ++ ⟨#[58, 58, 32]⟩ ++ ⟨E.toArray⟩ ++ ⟨#[10]⟩ : ByteArray) = ⟨(name ++ [58, 58, 32] ++ E ++ [10]).toArray⟩ := by rw [app_mk name, app_mk, app_mk]
  by_cases h0 : v = []
  · subst h0
    have : ANS = false := by rw [← HA.out]; rfl
    subst this
    go_enter Tryz.func153, Tryz.ntmps153
    go_wp2_with fail
    clear HA
    go_loop [5, 6] (fun p i => LRel [] false p i) (fun _ i => 1 - (RowKit.intOf i).toNat)
    case atStart => exact ⟨0, false, rfl, by simp, rfl, rfl⟩
    case round =>
      obtain ⟨k, b, rfl, hk, rfl, hb⟩ := hrel
      obtain rfl : k = 0 := by simpa using hk
      obtain rfl : b = false := by simpa using hb
      go_wp2_with fail
      refine Calls.mono (show Calls _ _ _ _ _ from kb _) ?_
      rintro e w' ⟨rfl, hb'⟩
      all_goals
        go_wp2_with fail
        go_ret
        exact ⟨by first | rfl | (rw [← hM2]; rfl) | simp, hb'⟩
  · have hl : 0 < v.length := List.length_pos_iff.2 h0
    have hne : v.isEmpty = false := by cases v <;> simp_all
    have hpp := plain_parts v hl
    rw [HA.out] at hpp
    have hz : (((v.length : Int) - 1).toNat) = v.length - 1 := by omega
    obtain ⟨x0, hx0⟩ : ∃ x0 : Nat, v[0].toNat = x0 := ⟨_, rfl⟩
    obtain ⟨x1, hx1⟩ : ∃ x1 : Nat, (v[v.length - 1]).toNat = x1 := ⟨_, rfl⟩
    have y0 : ((⟨v.toArray⟩ : ByteArray)[0]'(by rw [Lib.size_mk]; omega)).toNat = x0 := hx0
    have y1 : ((⟨v.toArray⟩ : ByteArray)[v.length - 1]'(by rw [Lib.size_mk]; omega)).toNat = x1 := hx1
    rw [hx0, hx1] at hpp
    have HPP := Lib.hid hpp
    clear hpp hx0 hx1
    go_enter Tryz.func153, Tryz.ntmps153
    have hcase : x0 = 32 ∨ (x0 ≠ 32 ∧ x0 = 58) ∨ (x0 ≠ 32 ∧ x0 ≠ 58 ∧ x0 = 60) ∨ (x0 ≠ 32 ∧ x0 ≠ 58 ∧ x0 ≠ 60 ∧ x1 = 32) ∨ (x0 ≠ 32 ∧ x0 ≠ 58 ∧ x0 ≠ 60 ∧ x1 ≠ 32) := by omega
    rcases hcase with c1 | ⟨c1, c2⟩ | ⟨c1, c2, c3⟩ | ⟨c1, c2, c3, c4⟩ | ⟨c1, c2, c3, c4⟩
    case' neg.inr.inl =>
      have f1 : (((x0 : Nat) : Int) == 32) = false := by rw [beq_eq_false_iff_ne]; omega
      have g1 : (((x0 : Nat) : Int) != 32) = true := by rw [bne_iff_ne]; omega
    case' neg.inr.inr.inl =>
      have f1 : (((x0 : Nat) : Int) == 32) = false := by rw [beq_eq_false_iff_ne]; omega
      have g1 : (((x0 : Nat) : Int) != 32) = true := by rw [bne_iff_ne]; omega
      have f2 : (((x0 : Nat) : Int) == 58) = false := by rw [beq_eq_false_iff_ne]; omega
      have g2 : (((x0 : Nat) : Int) != 58) = true := by rw [bne_iff_ne]; omega
    case' neg.inr.inr.inr.inl =>
      have f1 : (((x0 : Nat) : Int) == 32) = false := by rw [beq_eq_false_iff_ne]; omega
      have g1 : (((x0 : Nat) : Int) != 32) = true := by rw [bne_iff_ne]; omega
      have f2 : (((x0 : Nat) : Int) == 58) = false := by rw [beq_eq_false_iff_ne]; omega
      have g2 : (((x0 : Nat) : Int) != 58) = true := by rw [bne_iff_ne]; omega
      have f3 : (((x0 : Nat) : Int) == 60) = false := by rw [beq_eq_false_iff_ne]; omega
      have g3 : (((x0 : Nat) : Int) != 60) = true := by rw [bne_iff_ne]; omega
    case' neg.inr.inr.inr.inr =>
      have f1 : (((x0 : Nat) : Int) == 32) = false := by rw [beq_eq_false_iff_ne]; omega
      have g1 : (((x0 : Nat) : Int) != 32) = true := by rw [bne_iff_ne]; omega
      have f2 : (((x0 : Nat) : Int) == 58) = false := by rw [beq_eq_false_iff_ne]; omega
      have g2 : (((x0 : Nat) : Int) != 58) = true := by rw [bne_iff_ne]; omega
      have f3 : (((x0 : Nat) : Int) == 60) = false := by rw [beq_eq_false_iff_ne]; omega
      have g3 : (((x0 : Nat) : Int) != 60) = true := by rw [bne_iff_ne]; omega
      have f4 : (((x1 : Nat) : Int) == 32) = false := by rw [beq_eq_false_iff_ne]; omega
      have g4 : (((x1 : Nat) : Int) != 32) = true := by rw [bne_iff_ne]; omega
    all_goals
      have HQ : ∃ q : Bool, (q && v.all okB) = ANS ∧ q = (!(x0 == 32) && !(x0 == 58) && !(x0 == 60) && !(x1 == 32)) := ⟨_, HPP.out.symm, rfl⟩
      obtain ⟨q, hq1, hq2⟩ := HQ
      have HQ1 := Lib.hid hq1
      clear HPP HA hq1
    case' neg.inl => subst c1; have hq : q = false := by rw [hq2]; rfl
    case' neg.inr.inl => subst c2; have hq : q = false := by rw [hq2]; rfl
    case' neg.inr.inr.inl => subst c3; have hq : q = false := by rw [hq2]; rfl
    case' neg.inr.inr.inr.inl => subst c4; have hq : q = false := by rw [hq2]; simp
    case' neg.inr.inr.inr.inr => have hq : q = true := by rw [hq2]; simp [c1, c2, c3, c4]
    all_goals
      subst hq
      clear hq2
      go_wp2_with fail
      go_loop [5, 6] (fun p i => LRel v ANS p i) (fun _ i => v.length - (RowKit.intOf i).toNat)
      case atStart => exact ⟨0, _, rfl, by omega, rfl, HQ1.out⟩
      case round =>
        obtain ⟨k, b, rfl, hk, rfl, hb⟩ := hrel
        by_cases hkv : k < v.length
        · rw [List.drop_eq_getElem_cons hkv, List.all_cons] at hb
          obtain ⟨x, hx⟩ : ∃ x : Nat, v[k].toNat = x := ⟨_, rfl⟩
          have hge : ((⟨v.toArray⟩ : ByteArray)[k]'(by rw [Lib.size_mk]; omega)).toNat = x := hx
          have hok : okB v[k] = (decide (32 ≤ x) && decide (x ≤ 126)) := by unfold okB; rw [hx, Bool.decide_and]
          rw [hok] at hb
          have r1 : decide ((32 : Int) ≤ (x : Int)) = decide (32 ≤ x) := decide_eq_decide.2 (by omega)
          have r2 : decide ((x : Int) ≤ (126 : Int)) = decide (x ≤ 126) := decide_eq_decide.2 (by omega)
          generalize decide (32 ≤ x) = d1 at hb r1
          generalize decide (x ≤ 126) = d2 at hb r2
          have HB := Lib.hid hb
          clear hb hok hx HQ1
          cases b
          · go_wp2_with fail
            exact ⟨⟨k + 1, false, by go_num, by omega, rfl, by have := HB.out; simpa using this⟩, by simp [RowKit.intOf]; omega⟩
          · cases d1
            · go_wp2_with fail
              exact ⟨⟨k + 1, false, by go_num, by omega, rfl, by have := HB.out; simpa using this⟩, by simp [RowKit.intOf]; omega⟩
            · cases d2
              · go_wp2_with fail
                exact ⟨⟨k + 1, false, by go_num, by omega, rfl, by have := HB.out; simpa using this⟩, by simp [RowKit.intOf]; omega⟩
              · go_wp2_with fail
                exact ⟨⟨k + 1, true, by go_num, by omega, rfl, by have := HB.out; simpa using this⟩, by simp [RowKit.intOf]; omega⟩
        · obtain rfl : k = v.length := by omega
          rw [List.drop_of_length_le (Nat.le_refl _)] at hb
          have hb2 : ANS = b := by rw [← hb]; simp
          subst hb2
          clear hb HQ1
          cases ANS
          · go_wp2_with fail
            refine Calls.mono (show Calls _ _ _ _ _ from kb _) ?_
            rintro e w' ⟨rfl, hb'⟩
            all_goals
              go_wp2_with fail
              go_ret
              exact ⟨by first | rfl | (rw [← hM2]; rfl) | simp, hb'⟩
          · go_wp2_with fail
            go_ret
            exact ⟨by first | rfl | simp, Below.refl _ _⟩
theorem kinds_any (w : World) :
    Calls Tryz.prog 148 #[] w fun e w' => e = .returned (.slice (some ⟨w.heap.size, 0, none⟩) 4 4) ∧ w' = w.alloc (.cells #[.string ⟨#[97, 100, 100]⟩, .string ⟨#[100, 101, 108, 101, 116, 101]⟩, .string ⟨#[109, 111, 100, 105, 102, 121]⟩, .string ⟨#[109, 111, 100, 114, 100, 110]⟩] 9) := by
  go_enter Tryz.func148, Tryz.ntmps148
  go_wp2
  go_ret
  exact ⟨rfl, rfl⟩
theorem ops_any (w : World) :
    Calls Tryz.prog 149 #[] w fun e w' => e = .returned (.slice (some ⟨w.heap.size, 0, none⟩) 3 3) ∧ w' = w.alloc (.cells #[.string ⟨#[97, 100, 100]⟩, .string ⟨#[100, 101, 108, 101, 116, 101]⟩, .string ⟨#[114, 101, 112, 108, 97, 99, 101]⟩] 9) := by
  go_enter Tryz.func149, Tryz.ntmps149
  go_wp2
  go_ret
  exact ⟨rfl, rfl⟩
theorem rmods_any (v : Value) (r : List Md) (w : World) (h1 : ModsAt w v r) (hl : r.length ≤ 140737488355328) (hr : ∀ x ∈ r, x.2.1.length ≤ 1099511627776) :
    Calls Tryz.prog 152 #[v] w fun e w' => e = .returned (.bool (modsOk r)) ∧ ∃ m, w' = w.drewN m := by
  have H1 := Lib.hid h1
  have H3 := Lib.hid hr
  clear hr
  obtain ⟨a1, c1, rfl, hc1, hx1⟩ := h1
  clear hx1
  obtain ⟨ANS, hA⟩ : ∃ ANS, modsOk r = ANS := ⟨_, rfl⟩
  rw [hA]
  have HA := Lib.hid hA
  clear hA
  go_enter Tryz.func152, Tryz.ntmps152
  go_wp2_with fail
  go_loopw [3] (fun i wr => ∃ k m : Nat, i = .int .i64 (k : Int) ∧ k ≤ r.length ∧ wr = w.drewN m ∧ modsOk (r.drop k) = ANS) (fun i _ => r.length - (RowKit.intOf i).toNat)
  case atStart => exact ⟨0, 0, rfl, by omega, rfl, HA.out⟩
  case round =>
    obtain ⟨k, m, rfl, hk, rfl, hans⟩ := hrel
    clear HA
    by_cases hkl : k < r.length
    · obtain ⟨x, hx⟩ : ∃ x, r[k] = x := ⟨_, rfl⟩
      have hxk : r[k]? = some x := by rw [List.getElem?_eq_getElem hkl, hx]
      have hr0 : r ≠ [] := by intro e; rw [e] at hkl; simp at hkl
      have hxl := H3.out x (List.mem_of_getElem? hxk)
      rw [List.drop_eq_getElem_cons hkl, hx] at hans
      obtain ⟨a3, cap3, e3, _, hcell⟩ := H1.out
      obtain ⟨g, o, ha, hcc⟩ := hcell hr0
      cases e3
      subst ha
      obtain ⟨p1, p2, z1, p3, hz1⟩ := hcc k x hxk
      clear hcc hcell hxk hx
      have i1 : (k : Int) < (r.length : Int) := by omega
      have i3 : decide ((k : Int) < (r.length : Int)) = true := decide_eq_true i1
      have ks := fun a => RIsType_any x.2.1 (w.drewN a) hxl
      obtain ⟨tb, htb⟩ : ∃ b, isTyB x.2.1 = b := ⟨_, rfl⟩
      have hm : (decide (0 ≤ x.1) && decide (x.1 ≤ 2) && isTyB x.2.1 && modsOk (r.drop (k + 1))) = ANS := by rw [← hans]; simp [modsOk]
      simp only [htb] at ks
      rw [htb] at hm
      have HM := Lib.hid hm
      clear hans hm htb
      go_wp2_with fail
      refine Calls.mono (show Calls _ _ _ _ _ from ks _) ?_
      rintro e w3 ⟨rfl, rfl⟩
      cases tb
      · have hF : ANS = false := by rw [← HM.out]; simp
        subst hF
        go_wp2_with fail
        go_ret
        first | exact ⟨rfl, _, rfl⟩ | exact ⟨rfl, _, World.drewN_drewN _ _ _⟩
      · by_cases h0 : x.1 < 0
        · have d1 : decide (x.1 < 0) = true := decide_eq_true h0
          have hF : ANS = false := by rw [← HM.out, decide_eq_false (show ¬ 0 ≤ x.1 by omega)]; simp
          subst hF
          go_wp2_with fail
          go_ret
          first | exact ⟨rfl, _, rfl⟩ | exact ⟨rfl, _, World.drewN_drewN _ _ _⟩
        · have d1 : decide (x.1 < 0) = false := decide_eq_false h0
          by_cases h2 : 2 < x.1
          · have d2 : decide (2 < x.1) = true := decide_eq_true h2
            have hF : ANS = false := by rw [← HM.out, decide_eq_false (show ¬ x.1 ≤ 2 by omega)]; simp
            subst hF
            go_wp2_with fail
            go_ret
            first | exact ⟨rfl, _, rfl⟩ | exact ⟨rfl, _, World.drewN_drewN _ _ _⟩
          · have d2 : decide (2 < x.1) = false := decide_eq_false h2
            have hT : modsOk (r.drop (k + 1)) = ANS := by rw [← HM.out, decide_eq_true (show 0 ≤ x.1 by omega), decide_eq_true (show x.1 ≤ 2 by omega)]; simp
            have HT := Lib.hid hT
            clear hT
            go_wp2_with fail
            exact ⟨⟨k + 1, _, by go_num, by omega, rfl, HT.out⟩, by simp [RowKit.intOf]; omega⟩
    · obtain rfl : k = r.length := by omega
      have e : ANS = true := by rw [← hans, List.drop_of_length_le (Nat.le_refl _)]; rfl
      subst e
      go_wp2_with fail
      go_ret
      exact ⟨rfl, _, rfl⟩
def prevQ (r : List At) (k : Nat) : Option (List UInt8) := if k = 0 then none else r[k - 1]?.map Prod.fst
theorem rattrs_any (v : Value) (r : List At) (w : World) (h1 : AttrsAt w v r) (hl : r.length ≤ 140737488355328) (hr : ∀ x ∈ r, x.1.length ≤ 1099511627776) (hv : ∀ x ∈ r, x.2.length ≤ 140737488355328) :
    Calls Tryz.prog 151 #[v] w fun e w' => e = .returned (.bool (attrsOk none r)) ∧ ∃ m, w' = w.drewN m := by
  have H1 := Lib.hid h1
  have H3 := Lib.hid hr
  have H4 := Lib.hid hv
  clear hr hv
  obtain ⟨a1, c1, rfl, hc1, hx1⟩ := h1
  clear hx1
  obtain ⟨ANS, hA⟩ : ∃ ANS, attrsOk none r = ANS := ⟨_, rfl⟩
  rw [hA]
  have HA := Lib.hid hA
  clear hA
  go_enter Tryz.func151, Tryz.ntmps151
  go_wp2_with fail
  go_loopw [3] (fun i wr => ∃ k m : Nat, i = .int .i64 (k : Int) ∧ k ≤ r.length ∧ wr = w.drewN m ∧ attrsOk (prevQ r k) (r.drop k) = ANS) (fun i _ => r.length - (RowKit.intOf i).toNat)
  case atStart => exact ⟨0, 0, rfl, by omega, rfl, HA.out⟩
  case round =>
    obtain ⟨k, m, rfl, hk, rfl, hans⟩ := hrel
    clear HA
    by_cases hkl : k < r.length
    · obtain ⟨x, hx⟩ : ∃ x, r[k] = x := ⟨_, rfl⟩
      have hxk : r[k]? = some x := by rw [List.getElem?_eq_getElem hkl, hx]
      have hr0 : r ≠ [] := by intro e; rw [e] at hkl; simp at hkl
      have hxl := H3.out x (List.mem_of_getElem? hxk)
      have hxv := H4.out x (List.mem_of_getElem? hxk)
      rw [List.drop_eq_getElem_cons hkl, hx] at hans
      have hnext : prevQ r (k + 1) = some x.1 := by simp [prevQ, hxk]
      have HNX := Lib.hid hnext
      obtain ⟨a3, cap3, e3, _, hcell⟩ := H1.out
      obtain ⟨g, o, ha, hcc⟩ := hcell hr0
      cases e3
      subst ha
      obtain ⟨p1, z1, p3, hz1⟩ := hcc k x hxk
      have hprev : ∀ j, k = j + 1 → ∃ y, r[j]? = some y ∧ w.cell? ⟨g, o + j * 2, none⟩ = some (.string ⟨y.1.toArray⟩) := fun j hj => by
        have hjl : j < r.length := by omega
        exact ⟨r[j], List.getElem?_eq_getElem hjl, (hcc j _ (List.getElem?_eq_getElem hjl)).1⟩
      have HPV := Lib.hid hprev
      obtain ⟨a5, c5, e5, _, _⟩ := hz1
      subst e5
      clear hcc hcell hxk hx hnext hprev
      have i1 : (k : Int) < (r.length : Int) := by omega
      have i3 : decide ((k : Int) < (r.length : Int)) = true := decide_eq_true i1
      have ks := fun a => (RIsType_any x.1 (w.drewN (m + a)) hxl).mono (fun e w'' h => (show e = .returned (.bool (isTyB x.1)) ∧ ∃ n, w'' = w.drewN (m + n) from ⟨h.1, a, h.2.symm⟩))
      obtain ⟨tb, htb⟩ : ∃ b, isTyB x.1 = b := ⟨_, rfl⟩
      have hm : (tb && !x.2.isEmpty && !(prevQ r k == some x.1) && attrsOk (some x.1) (r.drop (k + 1))) = ANS := by rw [← hans, attrsOk, htb]
      simp only [htb] at ks
      have HM := Lib.hid hm
      clear hans hm htb
      cases tb
      · have hF : ANS = false := by rw [← HM.out]; simp
        subst hF
        go_wp2_with fail
        go_quiet (exact ks _)
        go_wp2_with fail
        go_ret
        first | exact ⟨rfl, _, rfl⟩ | exact ⟨rfl, _, World.drewN_drewN _ _ _⟩
      · by_cases h0 : x.2.length = 0
        · have d1 : ((x.2.length : Int) == 0) = true := by rw [beq_iff_eq]; omega
          have hF : ANS = false := by rw [← HM.out, List.isEmpty_iff.2 (List.length_eq_zero_iff.1 h0)]; simp
          subst hF
          go_wp2_with fail
          go_quiet (exact ks _)
          go_wp2_with fail
          go_ret
          first | exact ⟨rfl, _, rfl⟩ | exact ⟨rfl, _, World.drewN_drewN _ _ _⟩
        · have d1 : ((x.2.length : Int) == 0) = false := by rw [beq_eq_false_iff_ne]; omega
          have he : x.2.isEmpty = false := by cases hh : x.2 with | nil => rw [hh] at h0; exact absurd rfl h0 | cons a t => rfl
          rcases Nat.eq_zero_or_pos k with hk0 | hk0
          · have hT : attrsOk (prevQ r (k + 1)) (r.drop (k + 1)) = ANS := by rw [HNX.out, ← HM.out, he]; simp [prevQ, hk0]
            have HT := Lib.hid hT
            have d2 : decide ((0 : Int) < (k : Int)) = false := decide_eq_false (by omega)
            have d3 : decide (0 < k) = false := decide_eq_false (by omega)
            have d4 : ¬ (0 < k) := by omega
            clear hT hk0
            go_wp2_with fail
            go_quiet (exact ks _)
            go_wp2_with fail
            exact ⟨⟨k + 1, _, by go_num, by omega, rfl, HT.out⟩, by simp [RowKit.intOf]; omega⟩
          · obtain ⟨j, rfl⟩ : ∃ j, k = j + 1 := ⟨k - 1, by omega⟩
            clear hk0
            obtain ⟨y, hy, py⟩ := HPV.out j rfl
            have d2 : decide ((0 : Int) < ((j + 1 : Nat) : Int)) = true := decide_eq_true (by omega)
            have hpr : prevQ r (j + 1) = some y.1 := by simp [prevQ, hy]
            rw [hpr] at HM
            by_cases hxy : x.1 = y.1
            · have d3 : (x.1 == y.1) = true := by rw [beq_iff_eq]; exact hxy
              have hF : ANS = false := by rw [← HM.out, hxy]; simp
              subst hF
              clear hy hxy hpr
              go_wp2_with fail
              go_quiet (exact ks _)
              go_wp2_with fail
              go_ret
              first | exact ⟨rfl, _, rfl⟩ | exact ⟨rfl, _, World.drewN_drewN _ _ _⟩
            · have d3 : (x.1 == y.1) = false := by rw [beq_eq_false_iff_ne]; exact hxy
              have hT : attrsOk (prevQ r (j + 1 + 1)) (r.drop (j + 1 + 1)) = ANS := by
                rw [HNX.out, ← HM.out, he]
                have : ((some y.1 : Option (List UInt8)) == some x.1) = false := by rw [beq_eq_false_iff_ne]; exact fun e => hxy (Option.some.inj e).symm
                rw [this]; simp
              have HT := Lib.hid hT
              clear hT hy hxy hpr
              go_wp2_with fail
              go_quiet (exact ks _)
              go_wp2_with fail
              exact ⟨⟨j + 1 + 1, _, by go_num, by omega, rfl, HT.out⟩, by simp [RowKit.intOf]; omega⟩
    · obtain rfl : k = r.length := by omega
      have e : ANS = true := by rw [← hans, List.drop_of_length_le (Nat.le_refl _)]; cases prevQ r r.length <;> rfl
      subst e
      go_wp2_with fail
      go_ret
      exact ⟨rfl, _, rfl⟩
theorem ronly_any (c : Chg) (vA vM : Value) (aA aM : Option Addr) (cA cM : Nat) (hA : vA = .slice aA c.attrs.length cA) (hM : vM = .slice aM c.mods.length cM) (w : World) :
    Calls Tryz.prog 150 #[.agg (chgA c vA vM)] w fun e w' => e = .returned (.bool (onlyC c)) ∧ Below w.heap.size w w' := by
  subst hA hM
  have hb1 : Below w.heap.size w (w.alloc (.cells (chgA c (.slice aA c.attrs.length cA) (.slice aM c.mods.length cM)) 47)) := (Below.refl _ _).alloc (Nat.le_refl _) _
  have hk1 : (w.alloc (.cells (chgA c (.slice aA c.attrs.length cA) (.slice aM c.mods.length cM)) 47)).heap[w.heap.size]? = some (.cells (chgA c (.slice aA c.attrs.length cA) (.slice aM c.mods.length cM)) 47 (0, 0)) := alloc_at _ _ _ rfl
  obtain ⟨⟨c0, c1, c2, c3, c4, c5, c6, c7, c8, c9⟩, _⟩ := ten_cells hk1
  clear hk1
  unfold chgA at c0 c1 c2 c3 c4 c5 c6 c7 c8 c9 hb1 ⊢
  obtain ⟨ANS, hN⟩ : ∃ b, onlyC c = b := ⟨_, rfl⟩
  rw [hN]
  unfold onlyC at hN
  obtain ⟨time, who, dn, kd, attrs, mods, newRdn, newSup, d, h⟩ := c
  simp only at hN c0 c1 c2 c3 c4 c5 c6 c7 c8 c9 hb1 ⊢
  obtain ⟨b1, q1⟩ : ∃ b, newRdn.isEmpty = b := ⟨_, rfl⟩
  obtain ⟨b2, q2⟩ : ∃ b, newSup.isEmpty = b := ⟨_, rfl⟩
  obtain ⟨a0, q3⟩ : ∃ b, ((attrs.length : Int) == 0) = b := ⟨_, rfl⟩
  obtain ⟨m0, q4⟩ : ∃ b, ((mods.length : Int) == 0) = b := ⟨_, rfl⟩
  have e3 : attrs.isEmpty = a0 := by rw [← q3]; cases attrs <;> simp; omega
  have e4 : mods.isEmpty = m0 := by rw [← q4]; cases mods <;> simp; omega
  rw [q1, q2, e3, e4] at hN
  clear e3 e4
  go_enter Tryz.func150, Tryz.ntmps150
  by_cases kk0 : kd = 0
  · subst kk0
    cases b1
    · skip
      have HN := Lib.hid hN
      clear hN
      go_wp2_with fail
      go_ret
      exact ⟨by rw [← HN.out]; first | rfl | (simp; done) | (cases h <;> simp), hb1⟩
    · skip
      cases b2
      · skip
        have HN := Lib.hid hN
        clear hN
        go_wp2_with fail
        go_ret
        exact ⟨by rw [← HN.out]; first | rfl | (simp; done) | (cases h <;> simp), hb1⟩
      · skip
        cases d
        · skip
          cases h
          · skip
            cases m0
            · skip
              have HN := Lib.hid hN
              clear hN
              go_wp2_with fail
              go_ret
              exact ⟨by rw [← HN.out]; first | rfl | (simp; done) | (cases h <;> simp), hb1⟩
            · skip
              have HN := Lib.hid hN
              clear hN
              go_wp2_with fail
              go_ret
              exact ⟨by rw [← HN.out]; first | rfl | (simp; done) | (cases h <;> simp), hb1⟩
          · skip
            have HN := Lib.hid hN
            clear hN
            go_wp2_with fail
            go_ret
            exact ⟨by rw [← HN.out]; first | rfl | (simp; done) | (cases h <;> simp), hb1⟩
        · skip
          have HN := Lib.hid hN
          clear hN
          go_wp2_with fail
          go_ret
          exact ⟨by rw [← HN.out]; first | rfl | (simp; done) | (cases h <;> simp), hb1⟩
  · have f0 : (kd == 0) = false := by rw [beq_eq_false_iff_ne]; exact kk0
    by_cases kk1 : kd = 1
    · subst kk1
      cases b1
      · skip
        have HN := Lib.hid hN
        clear hN
        go_wp2_with fail
        go_ret
        exact ⟨by rw [← HN.out]; first | rfl | (simp; done) | (cases h <;> simp), hb1⟩
      · skip
        cases b2
        · skip
          have HN := Lib.hid hN
          clear hN
          go_wp2_with fail
          go_ret
          exact ⟨by rw [← HN.out]; first | rfl | (simp; done) | (cases h <;> simp), hb1⟩
        · skip
          cases d
          · skip
            cases h
            · skip
              cases m0
              · skip
                have HN := Lib.hid hN
                clear hN
                go_wp2_with fail
                go_ret
                exact ⟨by rw [← HN.out]; first | rfl | (simp; done) | (cases h <;> simp), hb1⟩
              · skip
                cases a0
                · skip
                  have HN := Lib.hid hN
                  clear hN
                  go_wp2_with fail
                  go_ret
                  exact ⟨by rw [← HN.out]; first | rfl | (simp; done) | (cases h <;> simp), hb1⟩
                · skip
                  have HN := Lib.hid hN
                  clear hN
                  go_wp2_with fail
                  go_ret
                  exact ⟨by rw [← HN.out]; first | rfl | (simp; done) | (cases h <;> simp), hb1⟩
            · skip
              have HN := Lib.hid hN
              clear hN
              go_wp2_with fail
              go_ret
              exact ⟨by rw [← HN.out]; first | rfl | (simp; done) | (cases h <;> simp), hb1⟩
          · skip
            have HN := Lib.hid hN
            clear hN
            go_wp2_with fail
            go_ret
            exact ⟨by rw [← HN.out]; first | rfl | (simp; done) | (cases h <;> simp), hb1⟩
    · have f1 : (kd == 1) = false := by rw [beq_eq_false_iff_ne]; exact kk1
      by_cases kk2 : kd = 2
      · subst kk2
        cases b1
        · skip
          have HN := Lib.hid hN
          clear hN
          go_wp2_with fail
          go_ret
          exact ⟨by rw [← HN.out]; first | rfl | (simp; done) | (cases h <;> simp), hb1⟩
        · skip
          cases b2
          · skip
            have HN := Lib.hid hN
            clear hN
            go_wp2_with fail
            go_ret
            exact ⟨by rw [← HN.out]; first | rfl | (simp; done) | (cases h <;> simp), hb1⟩
          · skip
            cases d
            · skip
              cases h
              · skip
                cases a0
                · skip
                  have HN := Lib.hid hN
                  clear hN
                  go_wp2_with fail
                  go_ret
                  exact ⟨by rw [← HN.out]; first | rfl | (simp; done) | (cases h <;> simp), hb1⟩
                · skip
                  have HN := Lib.hid hN
                  clear hN
                  go_wp2_with fail
                  go_ret
                  exact ⟨by rw [← HN.out]; first | rfl | (simp; done) | (cases h <;> simp), hb1⟩
              · skip
                have HN := Lib.hid hN
                clear hN
                go_wp2_with fail
                go_ret
                exact ⟨by rw [← HN.out]; first | rfl | (simp; done) | (cases h <;> simp), hb1⟩
            · skip
              have HN := Lib.hid hN
              clear hN
              go_wp2_with fail
              go_ret
              exact ⟨by rw [← HN.out]; first | rfl | (simp; done) | (cases h <;> simp), hb1⟩
      · have f2 : (kd == 2) = false := by rw [beq_eq_false_iff_ne]; exact kk2
        by_cases kk3 : kd = 3
        · subst kk3
          cases b1
          · skip
            cases m0
            · skip
              have HN := Lib.hid hN
              clear hN
              go_wp2_with fail
              go_ret
              exact ⟨by rw [← HN.out]; first | rfl | (simp; done) | (cases h <;> simp), hb1⟩
            · skip
              cases a0
              · skip
                have HN := Lib.hid hN
                clear hN
                go_wp2_with fail
                go_ret
                exact ⟨by rw [← HN.out]; first | rfl | (simp; done) | (cases h <;> simp), hb1⟩
              · skip
                cases h
                · skip
                  cases b2
                  · skip
                    have HN := Lib.hid hN
                    clear hN
                    go_wp2_with fail
                    go_ret
                    exact ⟨by rw [← HN.out]; first | rfl | (simp; done) | (cases h <;> simp), hb1⟩
                  · skip
                    have HN := Lib.hid hN
                    clear hN
                    go_wp2_with fail
                    go_ret
                    exact ⟨by rw [← HN.out]; first | rfl | (simp; done) | (cases h <;> simp), hb1⟩
                · skip
                  have HN := Lib.hid hN
                  clear hN
                  go_wp2_with fail
                  go_ret
                  exact ⟨by rw [← HN.out]; first | rfl | (simp; done) | (cases h <;> simp), hb1⟩
          · skip
            cases b2
            · skip
              cases m0
              · skip
                have HN := Lib.hid hN
                clear hN
                go_wp2_with fail
                go_ret
                exact ⟨by rw [← HN.out]; first | rfl | (simp; done) | (cases h <;> simp), hb1⟩
              · skip
                cases a0
                · skip
                  have HN := Lib.hid hN
                  clear hN
                  go_wp2_with fail
                  go_ret
                  exact ⟨by rw [← HN.out]; first | rfl | (simp; done) | (cases h <;> simp), hb1⟩
                · skip
                  cases h
                  · skip
                    have HN := Lib.hid hN
                    clear hN
                    go_wp2_with fail
                    go_ret
                    exact ⟨by rw [← HN.out]; first | rfl | (simp; done) | (cases h <;> simp), hb1⟩
                  · skip
                    have HN := Lib.hid hN
                    clear hN
                    go_wp2_with fail
                    go_ret
                    exact ⟨by rw [← HN.out]; first | rfl | (simp; done) | (cases h <;> simp), hb1⟩
            · skip
              cases d
              · skip
                cases h
                · skip
                  cases m0
                  · skip
                    have HN := Lib.hid hN
                    clear hN
                    go_wp2_with fail
                    go_ret
                    exact ⟨by rw [← HN.out]; first | rfl | (simp; done) | (cases h <;> simp), hb1⟩
                  · skip
                    cases a0
                    · skip
                      have HN := Lib.hid hN
                      clear hN
                      go_wp2_with fail
                      go_ret
                      exact ⟨by rw [← HN.out]; first | rfl | (simp; done) | (cases h <;> simp), hb1⟩
                    · skip
                      have HN := Lib.hid hN
                      clear hN
                      go_wp2_with fail
                      go_ret
                      exact ⟨by rw [← HN.out]; first | rfl | (simp; done) | (cases h <;> simp), hb1⟩
                · skip
                  cases m0
                  · skip
                    have HN := Lib.hid hN
                    clear hN
                    go_wp2_with fail
                    go_ret
                    exact ⟨by rw [← HN.out]; first | rfl | (simp; done) | (cases h <;> simp), hb1⟩
                  · skip
                    cases a0
                    · skip
                      have HN := Lib.hid hN
                      clear hN
                      go_wp2_with fail
                      go_ret
                      exact ⟨by rw [← HN.out]; first | rfl | (simp; done) | (cases h <;> simp), hb1⟩
                    · skip
                      have HN := Lib.hid hN
                      clear hN
                      go_wp2_with fail
                      go_ret
                      exact ⟨by rw [← HN.out]; first | rfl | (simp; done) | (cases h <;> simp), hb1⟩
              · skip
                cases m0
                · skip
                  have HN := Lib.hid hN
                  clear hN
                  go_wp2_with fail
                  go_ret
                  exact ⟨by rw [← HN.out]; first | rfl | (simp; done) | (cases h <;> simp), hb1⟩
                · skip
                  cases a0
                  · skip
                    have HN := Lib.hid hN
                    clear hN
                    go_wp2_with fail
                    go_ret
                    exact ⟨by rw [← HN.out]; first | rfl | (simp; done) | (cases h <;> simp), hb1⟩
                  · skip
                    cases h
                    · skip
                      have HN := Lib.hid hN
                      clear hN
                      go_wp2_with fail
                      go_ret
                      exact ⟨by rw [← HN.out]; first | rfl | (simp; done) | (cases h <;> simp), hb1⟩
                    · skip
                      have HN := Lib.hid hN
                      clear hN
                      go_wp2_with fail
                      go_ret
                      exact ⟨by rw [← HN.out]; first | rfl | (simp; done) | (cases h <;> simp), hb1⟩
        · have f3 : (kd == 3) = false := by rw [beq_eq_false_iff_ne]; exact kk3
          have hz : (decide (0 ≤ kd) && decide (kd ≤ 3)) = false := by
            rw [Bool.and_eq_false_iff]
            simp only [decide_eq_false_iff_not]
            omega
          rw [hz] at hN
          cases b1
          · skip
            have HN := Lib.hid hN
            clear hN
            go_wp2_with fail
            go_ret
            exact ⟨by rw [← HN.out]; first | rfl | (simp; done) | (cases h <;> simp), hb1⟩
          · skip
            cases b2
            · skip
              have HN := Lib.hid hN
              clear hN
              go_wp2_with fail
              go_ret
              exact ⟨by rw [← HN.out]; first | rfl | (simp; done) | (cases h <;> simp), hb1⟩
            · skip
              cases d
              · skip
                cases h
                · skip
                  have HN := Lib.hid hN
                  clear hN
                  go_wp2_with fail
                  go_ret
                  exact ⟨by rw [← HN.out]; first | rfl | (simp; done) | (cases h <;> simp), hb1⟩
                · skip
                  have HN := Lib.hid hN
                  clear hN
                  go_wp2_with fail
                  go_ret
                  exact ⟨by rw [← HN.out]; first | rfl | (simp; done) | (cases h <;> simp), hb1⟩
              · skip
                have HN := Lib.hid hN
                clear hN
                go_wp2_with fail
                go_ret
                exact ⟨by rw [← HN.out]; first | rfl | (simp; done) | (cases h <;> simp), hb1⟩
end Go.Proofs.YtegigcneimjimaaGreatDoor
