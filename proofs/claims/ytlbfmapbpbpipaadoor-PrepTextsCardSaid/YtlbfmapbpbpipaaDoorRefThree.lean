/- The document's own answers of chapter 3 on characters: within, Map, Fold. -/
import Derived.Test.YtlbfmapbpbpipaaDoorPrepA
import Derived.Deep.DeepFit
namespace Go.Proofs.YtlbfmapbpbpipaaDoor
open Go.RowKit Go.Lib

/-- A value that reads as a list of integers of a kind. -/
def IntsAt (k : IntKind) (w : World) (v : Value) (xs : List Int) : Prop :=
  ∃ A c, v = .slice A xs.length c ∧ xs.length ≤ c ∧ (0 < xs.length → ∃ g o, A = some ⟨g, o, none⟩ ∧ ∀ i x, xs[i]? = some x → w.cell? ⟨g, o + i, none⟩ = some (.int k x))

theorem ints_new (k : IntKind) (w : World) (xs : List Int) (cs : Array Value) (t : TypeId) (n : Nat) (h : cs = (xs.map (Value.int k)).toArray) (hn : n = xs.length) : IntsAt k (w.alloc (.cells cs t)) (.slice (some ⟨w.heap.size, 0, none⟩) n n) xs := by
  subst h
  subst hn
  refine ⟨_, _, rfl, Nat.le_refl _, fun _ => ⟨w.heap.size, 0, rfl, fun i x hx => ?_⟩⟩
  have : ((xs.map (Value.int k)).toArray)[0 + i]? = some (.int k x) := by simp [hx]
  simpa using this

def withinB (r : Int) : List Int → Bool
  | a :: b :: t => (decide (a ≤ r) && decide (r ≤ b)) || withinB r t
  | _ => false

theorem withinB_short (r : Int) (xs : List Int) (h : xs.length < 2) : withinB r xs = false := by
  match xs, h with
  | [], _ => rfl
  | [_], _ => rfl

set_option maxHeartbeats 1000000 in
theorem within_any (r : Int) (xs : List Int) (v : Value) (w : World) (hv : IntsAt .i32 w v xs) (hn : xs.length ≤ 1000000) :
    Calls Tryd.prog 21 #[.int .i32 r, v] w fun e w' => e = .returned (.bool (withinB r xs)) ∧ w = w' := by
  obtain ⟨A, cap, rfl, hcap, hA⟩ := hv
  have HA := Lib.hid hA
  clear hA
  obtain ⟨ANS, hANS⟩ : ∃ ANS, withinB r xs = ANS := ⟨_, rfl⟩
  rw [hANS]
  have HN := Lib.hid hANS
  clear hANS
  go_enter Tryd.func21, Tryd.ntmps21
  go_wp2
  go_loop [5] (fun i => ∃ j : Nat, i = .int .i64 j ∧ j ≤ xs.length + 1 ∧ Hid (withinB r (xs.drop j) = ANS)) (fun i => xs.length + 1 - (RowKit.intOf i).toNat)
  case atStart => exact ⟨0, rfl, by omega, Lib.hid (by simpa using HN.out)⟩
  case round =>
    obtain ⟨j, rfl, hj, hf⟩ := hrel
    by_cases hlt : j + 1 < xs.length
    · obtain ⟨g, o, rfl, hc⟩ := HA.out (by omega)
      have c0 := hc j (xs[j]'(by omega)) (List.getElem?_eq_getElem (by omega))
      have c1 := hc (j + 1) (xs[j + 1]'hlt) (List.getElem?_eq_getElem hlt)
      have hd : xs.drop j = xs[j]'(by omega) :: xs[j + 1]'hlt :: xs.drop (j + 2) := by
        rw [List.drop_eq_getElem_cons (by omega), List.drop_eq_getElem_cons hlt]
      have hf2 := hf.out
      rw [hd, withinB] at hf2
      obtain ⟨a, ha⟩ : ∃ a, xs[j]'(by omega) = a := ⟨_, rfl⟩
      obtain ⟨b, hb⟩ : ∃ b, xs[j + 1]'hlt = b := ⟨_, rfl⟩
      rw [ha, hb] at hf2
      rw [ha] at c0
      rw [hb] at c1
      clear ha hb hd hf hc HA HN
      have HF := Lib.hid hf2
      clear hf2
      by_cases h1 : a ≤ r
      · by_cases h2 : r ≤ b
        · go_wp2
          go_ret
          refine ⟨ret_bool ?_, rfl⟩
          rw [← HF.out]
          simp [h1, h2]
        · go_wp2
          go_round
          case rel => exact ⟨j + 2, by go_num, by omega, Lib.hid (by rw [← HF.out]; simp [h2])⟩
          case measure => simp [RowKit.intOf]; omega
      · go_wp2
        go_round
        case rel => exact ⟨j + 2, by go_num, by omega, Lib.hid (by rw [← HF.out]; simp [h1])⟩
        case measure => simp [RowKit.intOf]; omega
    · have hf2 := hf.out
      rw [withinB_short _ _ (by rw [List.length_drop]; omega)] at hf2
      subst hf2
      clear hf HA HN
      go_wp2
      go_ret
      exact ⟨rfl, rfl⟩

def blankRows : List Int := [9, 13, 133, 133, 160, 160, 5760, 5760, 8192, 8202, 8232, 8233, 8239, 8239, 8287, 8287, 12288, 12288]
def goesRows : List Int := [0, 31, 127, 159, 173, 173, 847, 847, 6150, 6150, 6155, 6158, 8203, 8207, 8234, 8238, 8288, 8303, 65024, 65039, 65279, 65279, 65529, 65532]
def badRows : List Int := [55296, 63743, 65533, 65535]
theorem blankRows_eq (r : Int) : withinB r blankRows = isBlankB r := by
  rw [Bool.eq_iff_iff]; simp [withinB, blankRows, isBlankB]; omega
theorem goesRows_eq (r : Int) : withinB r goesRows = goesB r := by
  rw [Bool.eq_iff_iff]; simp [withinB, goesRows, goesB]; omega
theorem badRows_eq (r : Int) (h0 : 0 ≤ r) (h1 : r < 983040) : withinB r badRows = isRefusedB r := by
  rw [Bool.eq_iff_iff]; simp [withinB, badRows, isRefusedB]; omega

def mapWhat (r : Int) : Int := if isBlankB r then 0 else if goesB r then 1 else if isRefusedB r then 2 else 0

theorem within_at (r : Int) (xs : List Int) (cs : Array Value) (t : TypeId) (n g : Nat) (w : World) (b : Bool) (hb : Hid (withinB r xs = b)) (hg : w.heap.size = g) (h : cs = (xs.map (Value.int .i32)).toArray) (hn : n = xs.length) (hl : n ≤ 1000000) :
    Calls Tryd.prog 21 #[.int .i32 r, .slice (some ⟨g, 0, none⟩) n n] (w.alloc (.cells cs t)) fun e w' => e = .returned (.bool b) ∧ w.alloc (.cells cs t) = w' := by
  subst hg
  exact hb.out ▸ within_any r xs _ _ (ints_new .i32 w xs cs t n h hn) (by omega)

set_option maxHeartbeats 1000000 in
theorem RefMap_any (r : Int) (w : World) :
    Calls Tryd.prog 10 #[.int .i32 r] w fun e w' => e = .returned (.tuple #[.int .i32 (mapR r), .int .i64 (mapWhat r)]) ∧ Below w.heap.size w w' := by
  have k1 := Lib.hid (blankRows_eq r)
  have k2 := Lib.hid (goesRows_eq r)
  have k3 := Lib.hid (badRows_eq r)
  unfold mapR mapWhat
  have k4 : isRefusedB r = decide (r < 0 ∨ (0xD800 ≤ r ∧ r ≤ 0xF8FF) ∨ (0xFFFD ≤ r ∧ r ≤ 0xFFFF) ∨ 0xF0000 ≤ r) := rfl
  obtain ⟨b1, hb1⟩ : ∃ b1, isBlankB r = b1 := ⟨_, rfl⟩
  obtain ⟨b2, hb2⟩ : ∃ b2, goesB r = b2 := ⟨_, rfl⟩
  obtain ⟨b3, hb3⟩ : ∃ b3, isRefusedB r = b3 := ⟨_, rfl⟩
  rw [hb1] at k1 ⊢
  rw [hb2] at k2 ⊢
  rw [hb3] at k3 k4 ⊢
  have K4 := Lib.hid k4
  clear hb1 hb2 hb3 k4
  cases b1
  · cases b2
    · by_cases h0 : r < 0
      · obtain rfl : b3 = true := by rw [K4.out]; exact decide_eq_true (by omega)
        clear k3 K4
        go_enter Tryd.func10, Tryd.ntmps10
        go_wp2_with fail
        refine (within_at r blankRows _ _ _ _ _ _ k1 (by simp) rfl rfl (by decide)).mono ?_
        rintro e w1 ⟨rfl, rfl⟩
        go_wp2_with fail
        refine (within_at r goesRows _ _ _ _ _ _ k2 (by simp) rfl rfl (by decide)).mono ?_
        rintro e w1 ⟨rfl, rfl⟩
        go_wp2_with fail
        go_ret2
        exact ⟨rfl, ((Below.refl _ _).alloc (Nat.le_refl _) _).alloc (by simp) _⟩
      · by_cases h1 : r < 983040
        · have k5 := Lib.hid (k3.out (by omega) h1)
          clear k3 K4
          go_enter Tryd.func10, Tryd.ntmps10
          go_wp2_with fail
          refine (within_at r blankRows _ _ _ _ _ _ k1 (by simp) rfl rfl (by decide)).mono ?_
          rintro e w1 ⟨rfl, rfl⟩
          go_wp2_with fail
          refine (within_at r goesRows _ _ _ _ _ _ k2 (by simp) rfl rfl (by decide)).mono ?_
          rintro e w1 ⟨rfl, rfl⟩
          go_wp2_with fail
          refine (within_at r badRows _ _ _ _ _ _ k5 (by simp) rfl rfl (by decide)).mono ?_
          rintro e w1 ⟨rfl, rfl⟩
          cases b3
          · go_wp2_with fail
            go_ret2
            exact ⟨rfl, (((Below.refl _ _).alloc (Nat.le_refl _) _).alloc (by simp) _).alloc (by simp; omega) _⟩
          · go_wp2_with fail
            go_ret2
            exact ⟨rfl, (((Below.refl _ _).alloc (Nat.le_refl _) _).alloc (by simp) _).alloc (by simp; omega) _⟩
        · obtain rfl : b3 = true := by rw [K4.out]; exact decide_eq_true (by omega)
          clear k3 K4
          go_enter Tryd.func10, Tryd.ntmps10
          go_wp2_with fail
          refine (within_at r blankRows _ _ _ _ _ _ k1 (by simp) rfl rfl (by decide)).mono ?_
          rintro e w1 ⟨rfl, rfl⟩
          go_wp2_with fail
          refine (within_at r goesRows _ _ _ _ _ _ k2 (by simp) rfl rfl (by decide)).mono ?_
          rintro e w1 ⟨rfl, rfl⟩
          go_wp2_with fail
          go_ret2
          exact ⟨rfl, ((Below.refl _ _).alloc (Nat.le_refl _) _).alloc (by simp) _⟩
    · clear k3 K4
      go_enter Tryd.func10, Tryd.ntmps10
      go_wp2_with fail
      refine (within_at r blankRows _ _ _ _ _ _ k1 (by simp) rfl rfl (by decide)).mono ?_
      rintro e w1 ⟨rfl, rfl⟩
      go_wp2_with fail
      refine (within_at r goesRows _ _ _ _ _ _ k2 (by simp) rfl rfl (by decide)).mono ?_
      rintro e w1 ⟨rfl, rfl⟩
      go_wp2_with fail
      go_ret2
      exact ⟨rfl, ((Below.refl _ _).alloc (Nat.le_refl _) _).alloc (by simp) _⟩
  · clear k2 k3 K4
    go_enter Tryd.func10, Tryd.ntmps10
    go_wp2_with fail
    refine (within_at r blankRows _ _ _ _ _ _ k1 (by simp) rfl rfl (by decide)).mono ?_
    rintro e w1 ⟨rfl, rfl⟩
    go_wp2_with fail
    go_ret2
    exact ⟨rfl, (Below.refl _ _).alloc (Nat.le_refl _) _⟩

def foldA : List Int := [65, 90, 192, 214, 216, 222, 913, 929, 931, 937, 1040, 1071]
def foldB : List Int := [1024, 1039]
def foldC : List Int := [256, 311, 330, 375]

set_option maxHeartbeats 1000000 in
theorem RefFold_any (r : Int) (w : World) :
    Calls Tryd.prog 13 #[.int .i32 r] w fun e w' => e = .returned (.int .i32 (foldR r)) ∧ Below w.heap.size w w' := by
  obtain ⟨a, ha⟩ : ∃ a, withinB r foldA = a := ⟨_, rfl⟩
  obtain ⟨b, hb⟩ : ∃ b, withinB r foldB = b := ⟨_, rfl⟩
  obtain ⟨c, hc⟩ : ∃ c, withinB r foldC = c := ⟨_, rfl⟩
  have pa : a = true ↔ (65 ≤ r ∧ r ≤ 90 ∨ 192 ≤ r ∧ r ≤ 214 ∨ 216 ≤ r ∧ r ≤ 222 ∨ 913 ≤ r ∧ r ≤ 929 ∨ 931 ≤ r ∧ r ≤ 937 ∨ 1040 ≤ r ∧ r ≤ 1071) := by rw [← ha]; simp [withinB, foldA]
  have pb : b = true ↔ (1024 ≤ r ∧ r ≤ 1039) := by rw [← hb]; simp [withinB, foldB]
  have pc : c = true ↔ (256 ≤ r ∧ r ≤ 311 ∨ 330 ≤ r ∧ r ≤ 375) := by rw [← hc]; simp [withinB, foldC]
  obtain ⟨F, hF⟩ : ∃ F, foldR r = F := ⟨_, rfl⟩
  rw [hF]
  have HF := Lib.hid hF
  have ka := Lib.hid ha
  have kb := Lib.hid hb
  have kc := Lib.hid hc
  clear ha hb hc hF
  cases a
  · have pa' : ¬ _ := fun h => Bool.noConfusion (pa.2 h)
    cases b
    · have pb' : ¬ _ := fun h => Bool.noConfusion (pb.2 h)
      by_cases hd : r = 7838
      · have hdb : (r == 7838) = true := by rw [hd]; rfl
        obtain rfl : F = 223 := by rw [← HF.out, hd]; decide
        clear HF hd pa pb pc pa' pb' kc
        go_enter Tryd.func13, Tryd.ntmps13
        go_wp2_with fail
        refine (within_at r foldA _ _ _ _ _ _ ka (by simp) rfl rfl (by decide)).mono ?_
        rintro e w1 ⟨rfl, rfl⟩
        go_wp2_with fail
        refine (within_at r foldB _ _ _ _ _ _ kb (by simp) rfl rfl (by decide)).mono ?_
        rintro e w1 ⟨rfl, rfl⟩
        go_wp2_with fail
        go_ret
        exact ⟨rfl, ((Below.refl _ _).alloc (Nat.le_refl _) _).alloc (by simp) _⟩
      · have hdb : (r == 7838) = false := beq_eq_false_iff_ne.2 hd
        cases c
        · have pc' : ¬ _ := fun h => Bool.noConfusion (pc.2 h)
          obtain rfl : F = r := by
            rw [← HF.out, foldR, if_neg (by omega), if_neg (by omega), if_neg (by omega), if_neg (by omega)]
          clear HF hd pa pb pc pa' pb' pc'
          go_enter Tryd.func13, Tryd.ntmps13
          go_wp2_with fail
          refine (within_at _ foldA _ _ _ _ _ _ ka (by simp) rfl rfl (by decide)).mono ?_
          rintro e w1 ⟨rfl, rfl⟩
          go_wp2_with fail
          refine (within_at _ foldB _ _ _ _ _ _ kb (by simp) rfl rfl (by decide)).mono ?_
          rintro e w1 ⟨rfl, rfl⟩
          go_wp2_with fail
          refine (within_at _ foldC _ _ _ _ _ _ kc (by simp) rfl rfl (by decide)).mono ?_
          rintro e w1 ⟨rfl, rfl⟩
          go_wp2_with fail
          go_ret
          exact ⟨rfl, (((Below.refl _ _).alloc (Nat.le_refl _) _).alloc (by simp) _).alloc (by simp; omega) _⟩
        · have pc' := pc.1 rfl
          by_cases hev : r % 2 = 0
          · obtain rfl : F = r + 1 := by
              rw [← HF.out, foldR, if_neg (by omega), if_neg (by omega), if_neg (by omega), if_pos (by omega)]
            have hl : 256 ≤ r := by omega
            have hu : r ≤ 375 := by omega
            have hevb : (r % 2 == 0) = true := by rw [hev]; rfl
            clear HF hd pa pb pc pa' pb' pc' hev
            go_enter Tryd.func13, Tryd.ntmps13
            go_wp2_with fail
            refine (within_at _ foldA _ _ _ _ _ _ ka (by simp) rfl rfl (by decide)).mono ?_
            rintro e w1 ⟨rfl, rfl⟩
            go_wp2_with fail
            refine (within_at _ foldB _ _ _ _ _ _ kb (by simp) rfl rfl (by decide)).mono ?_
            rintro e w1 ⟨rfl, rfl⟩
            go_wp2_with fail
            refine (within_at _ foldC _ _ _ _ _ _ kc (by simp) rfl rfl (by decide)).mono ?_
            rintro e w1 ⟨rfl, rfl⟩
            go_wp2_with fail
            go_ret
            exact ⟨rfl, (((Below.refl _ _).alloc (Nat.le_refl _) _).alloc (by simp) _).alloc (by simp; omega) _⟩
          · obtain rfl : F = r := by
              rw [← HF.out, foldR, if_neg (by omega), if_neg (by omega), if_neg (by omega), if_neg (by omega)]
            have hl : 256 ≤ F := by omega
            have hu : F ≤ 375 := by omega
            have hevb : (F % 2 == 0) = false := beq_eq_false_iff_ne.2 hev
            clear HF hd pa pb pc pa' pb' pc' hev
            go_enter Tryd.func13, Tryd.ntmps13
            go_wp2_with fail
            refine (within_at _ foldA _ _ _ _ _ _ ka (by simp) rfl rfl (by decide)).mono ?_
            rintro e w1 ⟨rfl, rfl⟩
            go_wp2_with fail
            refine (within_at _ foldB _ _ _ _ _ _ kb (by simp) rfl rfl (by decide)).mono ?_
            rintro e w1 ⟨rfl, rfl⟩
            go_wp2_with fail
            refine (within_at _ foldC _ _ _ _ _ _ kc (by simp) rfl rfl (by decide)).mono ?_
            rintro e w1 ⟨rfl, rfl⟩
            go_wp2_with fail
            go_ret
            exact ⟨rfl, (((Below.refl _ _).alloc (Nat.le_refl _) _).alloc (by simp) _).alloc (by simp; omega) _⟩
    · have pb' := pb.1 rfl
      obtain rfl : F = r + 80 := by
        rw [← HF.out, foldR, if_neg (by omega), if_pos (by omega)]
      obtain ⟨hl, hu⟩ := pb'
      clear HF pa pb pc pa' kc
      go_enter Tryd.func13, Tryd.ntmps13
      go_wp2_with fail
      refine (within_at _ foldA _ _ _ _ _ _ ka (by simp) rfl rfl (by decide)).mono ?_
      rintro e w1 ⟨rfl, rfl⟩
      go_wp2_with fail
      refine (within_at _ foldB _ _ _ _ _ _ kb (by simp) rfl rfl (by decide)).mono ?_
      rintro e w1 ⟨rfl, rfl⟩
      go_wp2_with fail
      go_ret
      exact ⟨rfl, ((Below.refl _ _).alloc (Nat.le_refl _) _).alloc (by simp) _⟩
  · have pa' := pa.1 rfl
    obtain rfl : F = r + 32 := by
      rw [← HF.out, foldR, if_pos (by omega)]
    have hl : 65 ≤ r := by omega
    have hu : r ≤ 1071 := by omega
    clear HF pa pb pc pa' kc kb
    go_enter Tryd.func13, Tryd.ntmps13
    go_wp2_with fail
    refine (within_at _ foldA _ _ _ _ _ _ ka (by simp) rfl rfl (by decide)).mono ?_
    rintro e w1 ⟨rfl, rfl⟩
    go_wp2_with fail
    go_ret
    exact ⟨rfl, (Below.refl _ _).alloc (Nat.le_refl _) _⟩
end Go.Proofs.YtlbfmapbpbpipaaDoor
