/- ldif.Unbase64: what it returns, for all bytes. -/
import Derived.Test.YtehpdodjncabkaaDoorLdifB
namespace Go.Proofs.YtehpdodjncabkaaDoor
open Go.RowKit Go.Lib

theorem own_below {w w' : World} {base e size n : Nat} {v : Value} {xs : List Value} (h : w.ownsRow base e size v n xs) (hb : Below w.heap.size w w') : w'.ownsRow base e size v n xs := by
  refine ⟨h.1, ?_⟩
  rcases h.2 with hn | ⟨g, cap, cur, rfl, hbg, hg, rest⟩
  · exact .inl hn
  · exact .inr ⟨g, cap, cur, rfl, hbg, by rw [hb.block g (Array.getElem?_eq_some_iff.1 hg).1]; exact hg, rest⟩
theorem TrimEq_l (s : List UInt8) (w : World) (hs : s.length ≤ 1099511627776) :
    Calls Tryd.prog 82 #[.string ⟨s.toArray⟩, .string ⟨#[61]⟩] w fun e w' => e = .returned (.string ⟨(trimRightB s 61).toArray⟩) ∧ w = w' :=
  (Tryd.strings_TrimRight_one ⟨s.toArray⟩ 61 (by decide) w (by rw [Lib.size_mk]; omega)).mono fun e w' ⟨he, hw⟩ => ⟨by simpa using he, hw.symm⟩
theorem Dig_l (c : UInt8) (w : World) :
    Calls Tryd.prog 73 #[.string ⟨tab64.toArray⟩, .int .u8 (c.toNat : Int)] w fun e w' => e = .returned (.int .i64 (indexByte tab64 c)) ∧ w = w' :=
  (Tryd.strings_IndexByte ⟨tab64.toArray⟩ c.toNat w).mono fun e w' ⟨he, hw⟩ => ⟨by simpa using he, hw.symm⟩
theorem trimRightB_le (s : List UInt8) (c : UInt8) : (trimRightB s c).length ≤ s.length := by
  unfold trimRightB
  rw [List.length_reverse]
  exact Nat.le_trans (List.dropWhile_sublist _).length_le (by simp)
def URel (w : World) (B : List UInt8) (D : Option (List UInt8)) (v x n i : Value) (wr : World) : Prop :=
  ∃ (k X m : Nat) (o : List UInt8), i = .int .i64 (k : Int) ∧ x = .int .i64 (X : Int) ∧ n = .int .i64 (m : Int) ∧ k ≤ B.length ∧ (m = 0 ∨ m = 2 ∨ m = 4 ∨ m = 6) ∧ X < 2 ^ m ∧ o.length ≤ k ∧ wr.ownsRow w.heap.size 5 1 v o.length (bV o) ∧ Below w.heap.size w wr ∧ dgo (B.drop k) X m o = D

set_option maxRecDepth 100000 in
set_option maxHeartbeats 2000000 in
theorem Unbase64_any (s : List UInt8) (w : World) (hl : s.length ≤ 1099511627776) :
    Calls Tryd.prog 65 #[.string ⟨s.toArray⟩] w fun e w' => e = .returned (.tuple #[.string ⟨((unb s).getD []).toArray⟩, .int .i64 (if (unb s).isSome then 0 else 110)]) ∧ Below w.heap.size w w' := by
  have c1 := TrimEq_l s w hl
  have hB := trimRightB_le s 61
  obtain ⟨D, hD⟩ : ∃ D, decB s = D := ⟨_, rfl⟩
  have hD2 := hD
  unfold decB at hD2
  obtain ⟨B, hBe⟩ : ∃ B, trimRightB s 61 = B := ⟨_, rfl⟩
  rw [hBe] at c1 hB hD2
  clear hBe
  obtain ⟨A, hA⟩ : ∃ A, unb s = A := ⟨_, rfl⟩
  rw [hA]
  have hA2 := hA
  unfold unb at hA2
  rw [hD] at hA2
  have HD := Lib.hid hA2
  clear hA hA2
  have HB := Lib.hid hD2
  clear hD hD2
  go_enter Tryd.func65, Tryd.ntmps65
  go_wp2_with (go_at_call 82; refine c1.mono ?_; rintro e w' ⟨rfl, rfl⟩)
  go_loopw [4, 6, 7, 14] (fun v x n i wr => URel w B D v x n i wr) (fun _ _ _ i _ => B.length - (RowKit.intOf i).toNat)
  case atStart => exact ⟨0, 0, 0, [], rfl, rfl, rfl, by omega, .inl rfl, by omega, by simp, World.ownsRow_nil _ _ _ _, Below.refl _ _, HB.out⟩
  case round =>
    obtain ⟨k, X, m, o, rfl, rfl, rfl, hk, hm, hX, ho, hown, hbe, hdg⟩ := hrel
    have HG := Lib.hid hdg
    clear hdg HB
    have hsz := hbe.size
    by_cases hkB : k < B.length
    · have hgk : B.drop k = B[k] :: B.drop (k + 1) := List.drop_eq_getElem_cons hkB
      have c2 := Dig_l B[k] wr
      have hV1 := tab_lt B[k]
      have hs := HG.out
      rw [hgk, dgo] at hs
      obtain ⟨V, hV⟩ : ∃ V, indexByte tab64 B[k] = V := ⟨_, rfl⟩
      rw [hV] at c2 hV1 hs
      clear hgk hV HG
      have hge : ∀ h, (⟨B.toArray⟩ : ByteArray)[k]'h = B[k] := fun _ => rfl
      by_cases hV0 : V < 0
      · rw [if_pos hV0] at hs
        subst hs
        have hu := HD.out
        subst hu
        clear HD
        have hb : decide (V < 0) = true := decide_eq_true hV0
        go_wp2_with (go_at_call 73; refine Calls.mono (show Calls _ _ _ _ _ from c2) ?_; rintro e w' ⟨rfl, rfl⟩)
        go_ret2
        exact ⟨rfl, hbe⟩
      · rw [if_neg hV0] at hs
        obtain ⟨d, rfl⟩ := Int.eq_ofNat_of_zero_le (by omega : 0 ≤ V)
        rw [Int.toNat_natCast] at hs
        have hb : decide ((d : Int) < 0) = false := decide_eq_false hV0
        rcases hm with rfl | rfl | rfl | rfl
        · have hor : bits .or .i64 ((X : Int) * 64) (d : Int) = ((X * 64 + d : Nat) : Int) := by
            have := or_low 6 (X * 64) d (by omega) (by omega) (by omega) (by omega)
            simpa using this
          rw [if_neg (by omega)] at hs
          have HS := Lib.hid hs
          clear hs
          go_wp2_with (go_at_call 73; refine Calls.mono (show Calls _ _ _ _ _ from c2) ?_; rintro e w' ⟨rfl, rfl⟩)
          refine ⟨⟨k + 1, X * 64 + d, 6, o, by go_num, by go_num, rfl, by omega, by omega, by omega, by omega, hown, hbe, HS.out⟩, ?_⟩
          simp [RowKit.intOf]
          omega
        · have hor : bits .or .i64 ((X : Int) * 64) (d : Int) = ((X * 64 + d : Nat) : Int) := by
            have := or_low 6 (X * 64) d (by omega) (by omega) (by omega) (by omega)
            simpa using this
          rw [if_pos (by omega)] at hs
          have hand : bits .and .i64 ((X : Int) * 64 + d) 0 = (((X * 64 + d) % 2 ^ 0 : Nat) : Int) := by
            have := and_low 0 (X * 64 + d) 0 (by omega) (by omega) (by omega)
            simpa using this
          have hR := Nat.mod_lt (X * 64 + d) (show 2 ^ 0 > 0 by decide)
          simp only [Nat.reduceSub] at hs
          obtain ⟨R, hRe⟩ : ∃ R, (X * 64 + d) % 2 ^ 0 = R := ⟨_, rfl⟩
          rw [hRe] at hs hand hR
          clear hRe
          have hy : (((UInt8.ofNat ((X * 64 + d) / 2 ^ 0)).toNat : Nat) : Int) = ((X : Int) * 64 + d) := by
            rw [UInt8.toNat_ofNat']
            omega
          obtain ⟨y, hye⟩ : ∃ y, UInt8.ofNat ((X * 64 + d) / 2 ^ 0) = y := ⟨_, rfl⟩
          rw [hye] at hs hy
          clear hye
          have HS := Lib.hid hs
          clear hs
          obtain ⟨i0, hi0, hz0, hz1, hz2⟩ := info_parts Tryd.infoByte
          have D2 : ∀ u ∈ [Value.int .u8 ((X : Int) * 64 + d)], u.oneCell' = true := by intro u hu; simp at hu; subst hu; rfl
          have D3 : o.length + 1 ≤ maxLen := by unfold maxLen; omega
          have D4 : (o.length + 1) * 1 ≤ 140737488355328 := by omega
          have D5 : w.heap.size ≤ (wr.alloc (.cells #[.int .u8 ((X : Int) * 64 + d)] 5)).heap.size := by simp; omega
          have fin : ∀ (v' : Value) (w3 : World), w3.ownsRow w.heap.size 5 1 v' (o.length + 1) (bV o ++ [.int .u8 ((X : Int) * 64 + d)]) → (wr.alloc (.cells #[.int .u8 ((X : Int) * 64 + d)] 5)).grownBy w3 u4.ownBlock → URel w B D v' (.int .i64 (R : Int)) (.int .i64 0) (.int .i64 ((k : Int) + 1)) w3 := by
            intro v' w3 ho hg
            refine ⟨k + 1, R, 0, o ++ [y], by rw [Int.natCast_add]; rfl, rfl, rfl, by omega, by omega, hR, by simp; omega, ?_, ?_, HS.out⟩
            · rw [List.length_append, bV_append]
              rw [← hy] at ho
              exact ho
            · exact (hbe.alloc hbe.size _).grown hg (by simp; omega) (fun b hb => (hown.lt b hb).1)
          have FIN := Lib.hid fin
          clear fin hy
          go_wp2_with (first | (go_at_call 73; refine Calls.mono (show Calls _ _ _ _ _ from c2) ?_; rintro e w' ⟨rfl, rfl⟩) | (at_builtin; refine wpList_append_own _ rfl (.tmp 33) (.tmp 38) 41 rfl w.heap.size 5 i0 (.int .u8 0) 1 1 Tryd.underlying41 hi0 hz0 hz1 hz2 rfl (by decide) u4 o.length (bV o) rfl (hown.alloc _) ⟨wr.heap.size, 0, none⟩ 1 1 [.int .u8 ((X : Int) * 64 + d)] rfl rfl (cell_one_new _ _ _) D2 D3 D4 D5 ?_; intro v' w3 ho3 hg3 _))
          go_roundw
          case rel => exact FIN.out _ w3 ho3 hg3
          case measure => simp [RowKit.intOf]; omega
        · have hor : bits .or .i64 ((X : Int) * 64) (d : Int) = ((X * 64 + d : Nat) : Int) := by
            have := or_low 6 (X * 64) d (by omega) (by omega) (by omega) (by omega)
            simpa using this
          rw [if_pos (by omega)] at hs
          have hand : bits .and .i64 ((X : Int) * 64 + d) 3 = (((X * 64 + d) % 2 ^ 2 : Nat) : Int) := by
            have := and_low 2 (X * 64 + d) 3 (by omega) (by omega) (by omega)
            simpa using this
          have hR := Nat.mod_lt (X * 64 + d) (show 2 ^ 2 > 0 by decide)
          simp only [Nat.reduceSub] at hs
          obtain ⟨R, hRe⟩ : ∃ R, (X * 64 + d) % 2 ^ 2 = R := ⟨_, rfl⟩
          rw [hRe] at hs hand hR
          clear hRe
          have hy : (((UInt8.ofNat ((X * 64 + d) / 2 ^ 2)).toNat : Nat) : Int) = (((X : Int) * 64 + d) / 4) := by
            rw [UInt8.toNat_ofNat']
            omega
          obtain ⟨y, hye⟩ : ∃ y, UInt8.ofNat ((X * 64 + d) / 2 ^ 2) = y := ⟨_, rfl⟩
          rw [hye] at hs hy
          clear hye
          have HS := Lib.hid hs
          clear hs
          obtain ⟨i0, hi0, hz0, hz1, hz2⟩ := info_parts Tryd.infoByte
          have D2 : ∀ u ∈ [Value.int .u8 (((X : Int) * 64 + d) / 4)], u.oneCell' = true := by intro u hu; simp at hu; subst hu; rfl
          have D3 : o.length + 1 ≤ maxLen := by unfold maxLen; omega
          have D4 : (o.length + 1) * 1 ≤ 140737488355328 := by omega
          have D5 : w.heap.size ≤ (wr.alloc (.cells #[.int .u8 (((X : Int) * 64 + d) / 4)] 5)).heap.size := by simp; omega
          have fin : ∀ (v' : Value) (w3 : World), w3.ownsRow w.heap.size 5 1 v' (o.length + 1) (bV o ++ [.int .u8 (((X : Int) * 64 + d) / 4)]) → (wr.alloc (.cells #[.int .u8 (((X : Int) * 64 + d) / 4)] 5)).grownBy w3 u4.ownBlock → URel w B D v' (.int .i64 (R : Int)) (.int .i64 2) (.int .i64 ((k : Int) + 1)) w3 := by
            intro v' w3 ho hg
            refine ⟨k + 1, R, 2, o ++ [y], by rw [Int.natCast_add]; rfl, rfl, rfl, by omega, by omega, hR, by simp; omega, ?_, ?_, HS.out⟩
            · rw [List.length_append, bV_append]
              rw [← hy] at ho
              exact ho
            · exact (hbe.alloc hbe.size _).grown hg (by simp; omega) (fun b hb => (hown.lt b hb).1)
          have FIN := Lib.hid fin
          clear fin hy
          go_wp2_with (first | (go_at_call 73; refine Calls.mono (show Calls _ _ _ _ _ from c2) ?_; rintro e w' ⟨rfl, rfl⟩) | (at_builtin; refine wpList_append_own _ rfl (.tmp 33) (.tmp 38) 41 rfl w.heap.size 5 i0 (.int .u8 0) 1 1 Tryd.underlying41 hi0 hz0 hz1 hz2 rfl (by decide) u4 o.length (bV o) rfl (hown.alloc _) ⟨wr.heap.size, 0, none⟩ 1 1 [.int .u8 (((X : Int) * 64 + d) / 4)] rfl rfl (cell_one_new _ _ _) D2 D3 D4 D5 ?_; intro v' w3 ho3 hg3 _))
          go_roundw
          case rel => exact FIN.out _ w3 ho3 hg3
          case measure => simp [RowKit.intOf]; omega
        · have hor : bits .or .i64 ((X : Int) * 64) (d : Int) = ((X * 64 + d : Nat) : Int) := by
            have := or_low 6 (X * 64) d (by omega) (by omega) (by omega) (by omega)
            simpa using this
          rw [if_pos (by omega)] at hs
          have hand : bits .and .i64 ((X : Int) * 64 + d) 15 = (((X * 64 + d) % 2 ^ 4 : Nat) : Int) := by
            have := and_low 4 (X * 64 + d) 15 (by omega) (by omega) (by omega)
            simpa using this
          have hR := Nat.mod_lt (X * 64 + d) (show 2 ^ 4 > 0 by decide)
          simp only [Nat.reduceSub] at hs
          obtain ⟨R, hRe⟩ : ∃ R, (X * 64 + d) % 2 ^ 4 = R := ⟨_, rfl⟩
          rw [hRe] at hs hand hR
          clear hRe
          have hy : (((UInt8.ofNat ((X * 64 + d) / 2 ^ 4)).toNat : Nat) : Int) = (((X : Int) * 64 + d) / 16) := by
            rw [UInt8.toNat_ofNat']
            omega
          obtain ⟨y, hye⟩ : ∃ y, UInt8.ofNat ((X * 64 + d) / 2 ^ 4) = y := ⟨_, rfl⟩
          rw [hye] at hs hy
          clear hye
          have HS := Lib.hid hs
          clear hs
          obtain ⟨i0, hi0, hz0, hz1, hz2⟩ := info_parts Tryd.infoByte
          have D2 : ∀ u ∈ [Value.int .u8 (((X : Int) * 64 + d) / 16)], u.oneCell' = true := by intro u hu; simp at hu; subst hu; rfl
          have D3 : o.length + 1 ≤ maxLen := by unfold maxLen; omega
          have D4 : (o.length + 1) * 1 ≤ 140737488355328 := by omega
          have D5 : w.heap.size ≤ (wr.alloc (.cells #[.int .u8 (((X : Int) * 64 + d) / 16)] 5)).heap.size := by simp; omega
          have fin : ∀ (v' : Value) (w3 : World), w3.ownsRow w.heap.size 5 1 v' (o.length + 1) (bV o ++ [.int .u8 (((X : Int) * 64 + d) / 16)]) → (wr.alloc (.cells #[.int .u8 (((X : Int) * 64 + d) / 16)] 5)).grownBy w3 u4.ownBlock → URel w B D v' (.int .i64 (R : Int)) (.int .i64 4) (.int .i64 ((k : Int) + 1)) w3 := by
            intro v' w3 ho hg
            refine ⟨k + 1, R, 4, o ++ [y], by rw [Int.natCast_add]; rfl, rfl, rfl, by omega, by omega, hR, by simp; omega, ?_, ?_, HS.out⟩
            · rw [List.length_append, bV_append]
              rw [← hy] at ho
              exact ho
            · exact (hbe.alloc hbe.size _).grown hg (by simp; omega) (fun b hb => (hown.lt b hb).1)
          have FIN := Lib.hid fin
          clear fin hy
          go_wp2_with (first | (go_at_call 73; refine Calls.mono (show Calls _ _ _ _ _ from c2) ?_; rintro e w' ⟨rfl, rfl⟩) | (at_builtin; refine wpList_append_own _ rfl (.tmp 33) (.tmp 38) 41 rfl w.heap.size 5 i0 (.int .u8 0) 1 1 Tryd.underlying41 hi0 hz0 hz1 hz2 rfl (by decide) u4 o.length (bV o) rfl (hown.alloc _) ⟨wr.heap.size, 0, none⟩ 1 1 [.int .u8 (((X : Int) * 64 + d) / 16)] rfl rfl (cell_one_new _ _ _) D2 D3 D4 D5 ?_; intro v' w3 ho3 hg3 _))
          go_roundw
          case rel => exact FIN.out _ w3 ho3 hg3
          case measure => simp [RowKit.intOf]; omega
    · obtain rfl : k = B.length := by omega
      have hs := HG.out
      rw [List.drop_of_length_le (Nat.le_refl _), dgo] at hs
      subst hs
      have hcv := run_str_own (P := Tryd.prog) wr 41 9 5 w.heap.size u4 o Tryd.underlying41 Tryd.underlying5 Tryd.underlying9 hown
      have c3 := Base64_any o wr (by omega)
      have hu := HD.out
      simp only at hu
      obtain ⟨E, hEe⟩ : ∃ E, b64 o = E := ⟨_, rfl⟩
      rw [hEe] at c3 hu
      clear hEe HD HG
      by_cases hes : E = s
      · rw [if_pos hes] at hu
        subst hu hes
        go_wp2_with (go_at_call 17; refine c3.mono ?_; rintro e w2 ⟨rfl, hb2⟩; have hcv2 := run_str_own (P := Tryd.prog) w2 41 9 5 w.heap.size u4 o Tryd.underlying41 Tryd.underlying5 Tryd.underlying9 (own_below hown hb2))
        go_ret2
        exact ⟨rfl, below_ext hbe hb2⟩
      · rw [if_neg hes] at hu
        subst hu
        have hbq : (E == s) = false := beq_eq_false_iff_ne.2 hes
        go_wp2_with (go_at_call 17; refine c3.mono ?_; rintro e w2 ⟨rfl, hb2⟩; have hcv2 := run_str_own (P := Tryd.prog) w2 41 9 5 w.heap.size u4 o Tryd.underlying41 Tryd.underlying5 Tryd.underlying9 (own_below hown hb2))
        go_ret2
        exact ⟨rfl, below_ext hbe hb2⟩
end Go.Proofs.YtehpdodjncabkaaDoor
