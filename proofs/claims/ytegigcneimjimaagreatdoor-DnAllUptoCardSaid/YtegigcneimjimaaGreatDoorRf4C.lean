/- chanceryref1.Digit, Unhex at digits; chanceryref4.special: what they return. -/
import Derived.Test.YtegigcneimjimaaGreatDoorDnH
import Derived.Test.YtegigcneimjimaaGreatDoorDnE
namespace Go.Proofs.YtegigcneimjimaaGreatDoor
open Go.RowKit Go.Lib

set_option maxRecDepth 100000 in
set_option maxHeartbeats 2000000 in
theorem RDigit_any (c : UInt8) (w : World) :
    Calls Tryz.prog 252 #[.int .u8 (c.toNat : Int)] w fun e w' => e = .returned (.int .i64 (hexD c)) ∧ w = w' := by
  unfold hexD
  have hc := UInt8.toNat_lt c
  obtain ⟨n, hn⟩ : ∃ n, c.toNat = n := ⟨_, rfl⟩
  rw [hn] at hc ⊢
  clear hn
  by_cases a1 : 48 ≤ n ∧ n ≤ 57
  · rw [if_pos a1]
    have h0 : decide ((48 : Int) ≤ (n : Int)) = true := decide_eq_true (by omega)
    have h1 : decide ((n : Int) ≤ 57) = true := decide_eq_true (by omega)
    go_enter Tryz.func252, Tryz.ntmps252
    go_wp2
    go_ret
    exact ⟨rfl, rfl⟩
  · rw [if_neg a1]
    have h0 : decide ((48 : Int) ≤ (n : Int)) = decide (48 ≤ n) := dec_le 48 n
    have h1 : decide ((n : Int) ≤ 57) = decide (n ≤ 57) := dec_le n 57
    by_cases a2 : 97 ≤ n ∧ n ≤ 102
    · rw [if_pos a2]
      have h2 : decide ((n : Int) ≤ 57) = false := decide_eq_false (by omega)
      have h3 : decide ((48 : Int) ≤ (n : Int)) = true := decide_eq_true (by omega)
      have h4 : decide ((97 : Int) ≤ (n : Int)) = true := decide_eq_true (by omega)
      have h5 : decide ((n : Int) ≤ 102) = true := decide_eq_true (by omega)
      clear h0 h1
      go_enter Tryz.func252, Tryz.ntmps252
      go_wp2
      go_ret
      exact ⟨rfl, rfl⟩
    · rw [if_neg a2]
      by_cases a3 : 65 ≤ n ∧ n ≤ 70
      · rw [if_pos a3]
        have h2 : decide ((n : Int) ≤ 57) = false := decide_eq_false (by omega)
        have h3 : decide ((48 : Int) ≤ (n : Int)) = true := decide_eq_true (by omega)
        have h4 : decide ((97 : Int) ≤ (n : Int)) = false := decide_eq_false (by omega)
        have h5 : decide ((65 : Int) ≤ (n : Int)) = true := decide_eq_true (by omega)
        have h6 : decide ((n : Int) ≤ 70) = true := decide_eq_true (by omega)
        clear h0 h1
        go_enter Tryz.func252, Tryz.ntmps252
        go_wp2
        go_ret
        exact ⟨rfl, rfl⟩
      · rw [if_neg a3]
        have t1 : decide ((48 : Int) ≤ (n : Int)) = false ∨ decide ((48 : Int) ≤ (n : Int)) = true ∧ decide ((n : Int) ≤ 57) = false := by simp; omega
        have t2 : decide ((97 : Int) ≤ (n : Int)) = false ∨ decide ((97 : Int) ≤ (n : Int)) = true ∧ decide ((n : Int) ≤ 102) = false := by simp; omega
        have t3 : decide ((65 : Int) ≤ (n : Int)) = false ∨ decide ((65 : Int) ≤ (n : Int)) = true ∧ decide ((n : Int) ≤ 70) = false := by simp; omega
        clear h0 h1 a1 a2 a3
        rcases t1 with t1 | ⟨t1, t1'⟩ <;> rcases t2 with t2 | ⟨t2, t2'⟩ <;> rcases t3 with t3 | ⟨t3, t3'⟩ <;> (go_enter Tryz.func252, Tryz.ntmps252; go_wp2; go_ret; exact ⟨rfl, rfl⟩)
set_option maxRecDepth 100000 in
set_option maxHeartbeats 2000000 in
theorem RUnhex_any (s : List UInt8) (w : World) (hs : s.length ≤ 1099511627776) (hall : ∀ c ∈ s, isHex c = true) :
    Calls Tryz.prog 253 #[.string ⟨s.toArray⟩] w fun e w' => e = .returned (if s.length % 2 = 0 then .tuple #[.string ⟨(unhexL s).toArray⟩, .int .i64 0] else .tuple #[.string ⟨#[]⟩, .int .i64 11]) ∧ Below w.heap.size w w' := by
  by_cases hev : s.length % 2 = 0
  · rw [if_pos hev]
    have q1 : Int.tmod (s.length : Int) 2 = 0 := by rw [Int.tmod_eq_emod_of_nonneg (by omega)]; omega
    have q2 : (s.length : Int) % 2 = 0 := by omega
    obtain ⟨H, hH⟩ : ∃ H, s.length / 2 = H := ⟨_, rfl⟩
    have q3 : (s.length : Int) / 2 = (H : Int) := by omega
    obtain ⟨ANS, hA⟩ : ∃ ANS, unhexL s = ANS := ⟨_, rfl⟩
    rw [hA]
    have HA := Lib.hid hA
    have HW := Lib.hid hall
    clear hA hall
    obtain ⟨i0, hi0, hz0, hz1, hz2⟩ := info_parts Tryz.infoByte
    go_enter Tryz.func253, Tryz.ntmps253
    go_wp2_with (refine wpList_make_own _ rfl (.const (.int .i64 0)) (.tmp 14) 153 rfl w.heap.size 5 i0 (.int .u8 0) 1 Tryz.underlying153 hi0 hz0 hz1 .i64 .i64 (H : Int) H rfl rfl rfl ?_ ?_ (Nat.le_refl _) ?_)
    case refine_1 => rw [hz2]; omega
    case refine_2 => unfold maxLen; omega
    intro w1 ho1 hg1
    have hb1 : Below w.heap.size w w1 := (Below.refl _ w).grown hg1 (Nat.le_refl _) (fun k hk => by cases hk)
    go_wp2_with fail
    go_loopw [4, 5] (fun v i wr => UhRel w s ANS v i wr) (fun _ i _ => s.length - (RowKit.intOf i).toNat)
    case atStart => exact ⟨0, [], rfl, by omega, rfl, by simp, ho1, hb1, HA.out⟩
    case round =>
      clear ho1 hg1 hb1 HA
      obtain ⟨k, o, rfl, hk, hk2, ho, hown, hbe, hans⟩ := hrel
      have hsz := hbe.size
      by_cases hkl : k < s.length
      · have hk1 : k + 1 < s.length := by omega
        obtain ⟨x, hx⟩ : ∃ x, s[k] = x := ⟨_, rfl⟩
        obtain ⟨y, hy⟩ : ∃ y, s[k + 1] = y := ⟨_, rfl⟩
        have hdr : s.drop k = x :: y :: s.drop (k + 2) := by rw [List.drop_eq_getElem_cons hkl, hx, List.drop_eq_getElem_cons hk1, hy]
        rw [hdr, unhexL] at hans
        obtain ⟨X, hX, hX1⟩ := isHex_nat (HW.out x (by rw [← hx]; exact List.getElem_mem _))
        obtain ⟨Y, hY, hY1⟩ := isHex_nat (HW.out y (by rw [← hy]; exact List.getElem_mem _))
        have hz := hexB_nat hX hY hX1 hY1
        rw [Int.mul_comm] at hz
        obtain ⟨z, hze⟩ : ∃ z, hexB x y = z := ⟨_, rfl⟩
        rw [hze] at hz hans
        have kx := fun n => RDigit_any x (wr.drewN n)
        have ky := fun n => RDigit_any y (wr.drewN n)
        rw [hX] at kx
        rw [hY] at ky
        have hbx : ∀ h', (⟨s.toArray⟩ : ByteArray)[k]'h' = x := fun h' => hx
        have hby : ∀ h', (⟨s.toArray⟩ : ByteArray)[k + 1]'h' = y := fun h' => hy
        have zk : ((k : Int) + 1).toNat = k + 1 := by omega
        have hs2 : o ++ [z] ++ unhexL (s.drop (k + 2)) = ANS := by rw [← hans]; simp
        have HS := Lib.hid hs2
        clear hs2
        have h2 : wr.ownsRow w.heap.size 5 1 u4 o.length (bV o) := hown
        have hlt : (k : Int) < (s.length : Int) := by omega
        have hlt1 : (k : Int) + 1 < (s.length : Int) := by omega
        have hw1 : IntKind.i64.wrap ((k : Int) + 1) = (k : Int) + 1 := wraps_i64 _ (by omega) (by omega)
        clear hans hze hdr hx hy hX hY
        go_wp2
        go_quiet (first | (go_at_call_of 252 (Value.int .u8 (x.toNat : Int)); exact Calls.quiet_of_same ((kx _).mono fun e w' hh => ⟨hh.1, hh.2.symm⟩)) | (go_at_call_of 252 (Value.int .u8 (y.toNat : Int)); exact Calls.quiet_of_same ((ky _).mono fun e w' hh => ⟨hh.1, hh.2.symm⟩)))
        have hown2 : (wr.drewN nq).ownsRow w.heap.size 5 1 u4 o.length (bV o) := hown
        have hbe2 : Below w.heap.size w (wr.drewN nq) := Below.drewN hbe nq
        clear hown hbe kx ky h2
        generalize wr.drewN nq = wd at hown2 hbe2 ⊢
        have hsz2 := hbe2.size
        go_wp2_with (at_builtin; refine wpList_append_own _ rfl (.tmp 37) (.tmp 43) 153 rfl w.heap.size 5 i0 (.int .u8 0) 1 1 Tryz.underlying153 hi0 hz0 hz1 hz2 rfl (by decide) u4 o.length (bV o) rfl (hown2.alloc _) ⟨wd.heap.size, 0, none⟩ 1 1 [.int .u8 (16 * (X : Int) + Y)] rfl rfl (cell_one_new _ _ _) ?d2 ?d3 ?d4 ?d5 ?_)
        case d2 => intro u hu; simp at hu; subst hu; rfl
        case d3 => unfold maxLen; omega
        case d4 => omega
        case d5 => simp; omega
        intro v' w3 ho3 hg3 _
        go_wp2_with fail
        go_roundw
        case rel =>
          refine ⟨k + 2, o ++ [z], by go_num, by omega, by omega, by simp; omega, ?_, ?_, HS.out⟩
          · rw [List.length_append, bV_append]
            rw [← hz] at ho3
            exact ho3
          · exact (hbe2.alloc hsz2 _).grown hg3 (by simp; omega) (fun b hb => (hown2.lt b hb).1)
        case measure => simp [RowKit.intOf]; omega
      · obtain rfl : k = s.length := by omega
        rw [List.drop_of_length_le (Nat.le_refl _)] at hans
        simp only [unhexL, List.append_nil] at hans
        subst hans
        have hcv := run_str_own (P := Tryz.prog) wr 153 9 5 w.heap.size u4 o Tryz.underlying153 Tryz.underlying5 Tryz.underlying9 hown
        go_wp2_with fail
        go_ret2
        exact ⟨rfl, hbe⟩
  · rw [if_neg hev]
    have q1 : Int.tmod (s.length : Int) 2 = 1 := by rw [Int.tmod_eq_emod_of_nonneg (by omega)]; omega
    have q2 : (s.length : Int) % 2 = 1 := by omega
    go_enter Tryz.func253, Tryz.ntmps253
    go_wp2_with fail
    go_ret2
    exact ⟨rfl, Below.refl _ _⟩
theorem spec_mem : ∀ (k : Nat) (c : UInt8), k ≤ 7 → (∀ j, j < k → specL[j]? ≠ some c) → (specL.drop k).contains c = decide (c ∈ specL) := by
  intro k c hk h
  rw [Bool.eq_iff_iff, List.contains_iff_mem, decide_eq_true_eq]
  constructor
  · exact fun hm => List.mem_of_mem_drop hm
  · intro hm
    obtain ⟨j, hj⟩ := List.getElem?_of_mem hm
    rcases Nat.lt_or_ge j k with hl | hl
    · exact absurd hj (h j hl)
    · have : (specL.drop k)[j - k]? = some c := by rw [List.getElem?_drop, show k + (j - k) = j by omega]; exact hj
      exact List.mem_of_getElem? this
set_option maxRecDepth 100000 in
set_option maxHeartbeats 2000000 in
theorem special_any (c : UInt8) (w : World) :
    Calls Tryz.prog 254 #[.int .u8 (c.toNat : Int)] w fun e w' => e = .returned (.bool (decide (c ∈ specL))) ∧ w = w' := by
  obtain ⟨ANS, hA⟩ : ∃ ANS, decide (c ∈ specL) = ANS := ⟨_, rfl⟩
  rw [hA]
  have HA := Lib.hid hA
  clear hA
  go_enter Tryz.func254, Tryz.ntmps254
  go_wp2_with fail
  go_loop [3] (fun i => ∃ k : Nat, i = .int .i64 (k : Int) ∧ k ≤ 7 ∧ ∀ j, j < k → specL[j]? ≠ some c) (fun i => (7 - RowKit.intOf i).toNat)
  case atStart => exact ⟨0, rfl, by omega, fun j hj => by omega⟩
  case round =>
    obtain ⟨k, rfl, hk, hno⟩ := hrel
    have HN := Lib.hid hno
    clear hno
    by_cases h7 : k < 7
    · have hlk : k < specL.length := h7
      obtain ⟨x, hx⟩ : ∃ x, specL[k] = x := ⟨_, rfl⟩
      have hlit : ∀ h, (⟨#[34, 43, 44, 59, 60, 62, 92]⟩ : ByteArray)[k]'h = x := fun h => hx
      have hxk : specL[k]? = some x := by rw [List.getElem?_eq_getElem hlk, hx]
      have HX := Lib.hid hxk
      clear hxk hx
      by_cases hxc : x = c
      · subst hxc
        have e : ANS = true := by rw [← HA.out]; exact decide_eq_true (List.mem_of_getElem? HX.out)
        subst e
        go_wp2_with fail
        go_ret
        exact ⟨rfl, rfl⟩
      · have hbq : ((x.toNat : Int) == (c.toNat : Int)) = false := by
          rw [beq_eq_false_iff_ne]
          intro h
          exact hxc (UInt8.toNat.inj (by omega))
        have hno2 : ∀ j, j < k + 1 → specL[j]? ≠ some c := by
          intro j hj
          rcases Nat.lt_or_ge j k with h | h
          · exact HN.out j h
          · obtain rfl : j = k := by omega
            rw [HX.out]
            intro h
            exact hxc (Option.some.inj h)
        have HN2 := Lib.hid hno2
        clear hno2 hxc HN HX HA
        go_wp2_with fail
        exact ⟨⟨k + 1, by go_num, by omega, HN2.out⟩, by simp [RowKit.intOf]; omega⟩
    · obtain rfl : k = 7 := by omega
      have e : ANS = false := by rw [← HA.out, ← spec_mem 7 c (by omega) HN.out]; rfl
      subst e
      clear HA HN
      go_wp2_with fail
      go_ret
      exact ⟨rfl, rfl⟩
end Go.Proofs.YtegigcneimjimaaGreatDoor
