/- LdifU, BuildX, LdifX, PlainChg, MapK. -/
import Derived.Lib.Builder
import Derived.Lib.UnsafeStr
import Derived.MapKept
import Derived.WalkKit
import Derived.Test.YtegigcneimjimaaGreatDoorU1
namespace Go.Proofs.YtegigcneimjimaaGreatDoor
open Go.RowKit Go.Lib
open Go.Lib
open Go.RowKit
set_option maxRecDepth 100000
set_option maxHeartbeats 16000000
theorem own_below {w w' : World} {base e size n : Nat} {v : Value} {xs : List Value} (h : w.ownsRow base e size v n xs) (hb : Below w.heap.size w w') : w'.ownsRow base e size v n xs := by
  refine ⟨h.1, ?_⟩
  rcases h.2 with hn | ⟨g, cap, cur, rfl, hbg, hg, rest⟩
  · exact .inl hn
  · exact .inr ⟨g, cap, cur, rfl, hbg, by rw [hb.block g (Array.getElem?_eq_some_iff.1 hg).1]; exact hg, rest⟩
theorem TrimEq_l (s : List UInt8) (w : World) (hs : s.length ≤ 1099511627776) :
    Calls Tryz.prog 229 #[.string ⟨s.toArray⟩, .string ⟨#[61]⟩] w fun e w' => e = .returned (.string ⟨(trimRightB s 61).toArray⟩) ∧ w = w' :=
  (Tryz.strings_TrimRight_one ⟨s.toArray⟩ 61 (by decide) w (by rw [Lib.size_mk]; omega)).mono fun e w' ⟨he, hw⟩ => ⟨by simpa using he, hw.symm⟩
theorem Dig_l (c : UInt8) (w : World) :
    Calls Tryz.prog 210 #[.string ⟨tab64.toArray⟩, .int .u8 (c.toNat : Int)] w fun e w' => e = .returned (.int .i64 (indexByte tab64 c)) ∧ w = w' :=
  (Tryz.strings_IndexByte ⟨tab64.toArray⟩ c.toNat w).mono fun e w' ⟨he, hw⟩ => ⟨by simpa using he, hw.symm⟩
theorem trimRightB_le (s : List UInt8) (c : UInt8) : (trimRightB s c).length ≤ s.length := by
  unfold trimRightB
  rw [List.length_reverse]
  exact Nat.le_trans (List.dropWhile_sublist _).length_le (by simp)
def URel (w : World) (B : List UInt8) (D : Option (List UInt8)) (v x n i : Value) (wr : World) : Prop :=
  ∃ (k X m : Nat) (o : List UInt8), i = .int .i64 (k : Int) ∧ x = .int .i64 (X : Int) ∧ n = .int .i64 (m : Int) ∧ k ≤ B.length ∧ (m = 0 ∨ m = 2 ∨ m = 4 ∨ m = 6) ∧ X < 2 ^ m ∧ o.length ≤ k ∧ wr.ownsRow w.heap.size 5 1 v o.length (bV o) ∧ Below w.heap.size w wr ∧ dgo (B.drop k) X m o = D
theorem Unbase64_any (s : List UInt8) (w : World) (hl : s.length ≤ 1099511627776) :
    Calls Tryz.prog 143 #[.string ⟨s.toArray⟩] w fun e w' => e = .returned (.tuple #[.string ⟨((unb s).getD []).toArray⟩, .int .i64 (if (unb s).isSome then 0 else 110)]) ∧ Below w.heap.size w w' := by
  have c1 := TrimEq_l s w hl
  have hB := trimRightB_le s 61
  obtain ⟨D, hD⟩ : ∃ D, decB s = D := ⟨_, rfl⟩
  have hD2 := hD
  unfold decB at hD2
  obtain ⟨B, hBe⟩ : ∃ B, trimRightB s 61 = B := ⟨_, rfl⟩
  rw [hBe] at c1 hB hD2
  clear hBe
  obtain ⟨A, hA⟩ : ∃ A, unb s = A := ⟨_, rfl⟩
  rw [hA]
  have hA2 := hA
  unfold unb at hA2
  rw [hD] at hA2
  have HD := Lib.hid hA2
  clear hA hA2
  have HB := Lib.hid hD2
  clear hD hD2
  go_enter Tryz.func143, Tryz.ntmps143
  go_wp2_with (go_at_call 229; refine c1.mono ?_; rintro e w' ⟨rfl, rfl⟩)
  go_loopw [4, 6, 7, 14] (fun v x n i wr => URel w B D v x n i wr) (fun _ _ _ i _ => B.length - (RowKit.intOf i).toNat)
  case atStart => exact ⟨0, 0, 0, [], rfl, rfl, rfl, by omega, .inl rfl, by omega, by simp, World.ownsRow_nil _ _ _ _, Below.refl _ _, HB.out⟩
  case round =>
    obtain ⟨k, X, m, o, rfl, rfl, rfl, hk, hm, hX, ho, hown, hbe, hdg⟩ := hrel
    have HG := Lib.hid hdg
    clear hdg HB
    have hsz := hbe.size
    by_cases hkB : k < B.length
    · have hgk : B.drop k = B[k] :: B.drop (k + 1) := List.drop_eq_getElem_cons hkB
      have c2 := Dig_l B[k] wr
      have hV1 := tab_lt B[k]
      have hs := HG.out
      rw [hgk, dgo] at hs
      obtain ⟨V, hV⟩ : ∃ V, indexByte tab64 B[k] = V := ⟨_, rfl⟩
      rw [hV] at c2 hV1 hs
      clear hgk hV HG
      have hge : ∀ h, (⟨B.toArray⟩ : ByteArray)[k]'h = B[k] := fun _ => rfl
      by_cases hV0 : V < 0
      · rw [if_pos hV0] at hs
        subst hs
        have hu := HD.out
        subst hu
        clear HD
        have hb : decide (V < 0) = true := decide_eq_true hV0
        go_wp2_with (go_at_call 210; refine Calls.mono (show Calls _ _ _ _ _ from c2) ?_; rintro e w' ⟨rfl, rfl⟩)
        go_ret2
        exact ⟨rfl, hbe⟩
      · rw [if_neg hV0] at hs
        obtain ⟨d, rfl⟩ := Int.eq_ofNat_of_zero_le (by omega : 0 ≤ V)
        rw [Int.toNat_natCast] at hs
        have hb : decide ((d : Int) < 0) = false := decide_eq_false hV0
        rcases hm with rfl | rfl | rfl | rfl
        · have hor : bits .or .i64 ((X : Int) * 64) (d : Int) = ((X * 64 + d : Nat) : Int) := by
            have := or_low 6 (X * 64) d (by omega) (by omega) (by omega) (by omega)
            simpa using this
          rw [if_neg (by omega)] at hs
          have HS := Lib.hid hs
          clear hs
          go_wp2_with (go_at_call 210; refine Calls.mono (show Calls _ _ _ _ _ from c2) ?_; rintro e w' ⟨rfl, rfl⟩)
          refine ⟨⟨k + 1, X * 64 + d, 6, o, by go_num, by go_num, rfl, by omega, by omega, by omega, by omega, hown, hbe, HS.out⟩, ?_⟩
          simp [RowKit.intOf]
          omega
        · have hor : bits .or .i64 ((X : Int) * 64) (d : Int) = ((X * 64 + d : Nat) : Int) := by
            have := or_low 6 (X * 64) d (by omega) (by omega) (by omega) (by omega)
            simpa using this
          rw [if_pos (by omega)] at hs
          have hand : bits .and .i64 ((X : Int) * 64 + d) 0 = (((X * 64 + d) % 2 ^ 0 : Nat) : Int) := by
            have := and_low 0 (X * 64 + d) 0 (by omega) (by omega) (by omega)
            simpa using this
          have hR := Nat.mod_lt (X * 64 + d) (show 2 ^ 0 > 0 by decide)
          simp only [Nat.reduceSub] at hs
          obtain ⟨R, hRe⟩ : ∃ R, (X * 64 + d) % 2 ^ 0 = R := ⟨_, rfl⟩
          rw [hRe] at hs hand hR
          clear hRe
          have hy : (((UInt8.ofNat ((X * 64 + d) / 2 ^ 0)).toNat : Nat) : Int) = ((X : Int) * 64 + d) := by
            rw [UInt8.toNat_ofNat']
            omega
          obtain ⟨y, hye⟩ : ∃ y, UInt8.ofNat ((X * 64 + d) / 2 ^ 0) = y := ⟨_, rfl⟩
          rw [hye] at hs hy
          clear hye
          have HS := Lib.hid hs
          clear hs
          obtain ⟨i0, hi0, hz0, hz1, hz2⟩ := info_parts Tryz.infoByte
          have D2 : ∀ u ∈ [Value.int .u8 ((X : Int) * 64 + d)], u.oneCell' = true := by intro u hu; simp at hu; subst hu; rfl
          have D3 : o.length + 1 ≤ maxLen := by unfold maxLen; omega
          have D4 : (o.length + 1) * 1 ≤ 140737488355328 := by omega
          have D5 : w.heap.size ≤ (wr.alloc (.cells #[.int .u8 ((X : Int) * 64 + d)] 5)).heap.size := by simp; omega
          have fin : ∀ (v' : Value) (w3 : World), w3.ownsRow w.heap.size 5 1 v' (o.length + 1) (bV o ++ [.int .u8 ((X : Int) * 64 + d)]) → (wr.alloc (.cells #[.int .u8 ((X : Int) * 64 + d)] 5)).grownBy w3 u4.ownBlock → URel w B D v' (.int .i64 (R : Int)) (.int .i64 0) (.int .i64 ((k : Int) + 1)) w3 := by
            intro v' w3 ho hg
            refine ⟨k + 1, R, 0, o ++ [y], by rw [Int.natCast_add]; rfl, rfl, rfl, by omega, by omega, hR, by simp; omega, ?_, ?_, HS.out⟩
            · rw [List.length_append, bV_append]
              rw [← hy] at ho
              exact ho
            · exact (hbe.alloc hbe.size _).grown hg (by simp; omega) (fun b hb => (hown.lt b hb).1)
          have FIN := Lib.hid fin
          clear fin hy
          go_wp2_with (first | (go_at_call 210; refine Calls.mono (show Calls _ _ _ _ _ from c2) ?_; rintro e w' ⟨rfl, rfl⟩) | (at_builtin; refine wpList_append_own _ rfl (.tmp 33) (.tmp 38) 153 rfl w.heap.size 5 i0 (.int .u8 0) 1 1 Tryz.underlying153 hi0 hz0 hz1 hz2 rfl (by decide) u4 o.length (bV o) rfl (hown.alloc _) ⟨wr.heap.size, 0, none⟩ 1 1 [.int .u8 ((X : Int) * 64 + d)] rfl rfl (cell_one_new _ _ _) D2 D3 D4 D5 ?_; intro v' w3 ho3 hg3 _))
          go_roundw
          case rel => exact FIN.out _ w3 ho3 hg3
          case measure => simp [RowKit.intOf]; omega
        · have hor : bits .or .i64 ((X : Int) * 64) (d : Int) = ((X * 64 + d : Nat) : Int) := by
            have := or_low 6 (X * 64) d (by omega) (by omega) (by omega) (by omega)
            simpa using this
          rw [if_pos (by omega)] at hs
          have hand : bits .and .i64 ((X : Int) * 64 + d) 3 = (((X * 64 + d) % 2 ^ 2 : Nat) : Int) := by
            have := and_low 2 (X * 64 + d) 3 (by omega) (by omega) (by omega)
            simpa using this
          have hR := Nat.mod_lt (X * 64 + d) (show 2 ^ 2 > 0 by decide)
          simp only [Nat.reduceSub] at hs
          obtain ⟨R, hRe⟩ : ∃ R, (X * 64 + d) % 2 ^ 2 = R := ⟨_, rfl⟩
          rw [hRe] at hs hand hR
          clear hRe
          have hy : (((UInt8.ofNat ((X * 64 + d) / 2 ^ 2)).toNat : Nat) : Int) = (((X : Int) * 64 + d) / 4) := by
            rw [UInt8.toNat_ofNat']
            omega
          obtain ⟨y, hye⟩ : ∃ y, UInt8.ofNat ((X * 64 + d) / 2 ^ 2) = y := ⟨_, rfl⟩
          rw [hye] at hs hy
          clear hye
          have HS := Lib.hid hs
          clear hs
          obtain ⟨i0, hi0, hz0, hz1, hz2⟩ := info_parts Tryz.infoByte
          have D2 : ∀ u ∈ [Value.int .u8 (((X : Int) * 64 + d) / 4)], u.oneCell' = true := by intro u hu; simp at hu; subst hu; rfl
          have D3 : o.length + 1 ≤ maxLen := by unfold maxLen; omega
          have D4 : (o.length + 1) * 1 ≤ 140737488355328 := by omega
          have D5 : w.heap.size ≤ (wr.alloc (.cells #[.int .u8 (((X : Int) * 64 + d) / 4)] 5)).heap.size := by simp; omega
          have fin : ∀ (v' : Value) (w3 : World), w3.ownsRow w.heap.size 5 1 v' (o.length + 1) (bV o ++ [.int .u8 (((X : Int) * 64 + d) / 4)]) → (wr.alloc (.cells #[.int .u8 (((X : Int) * 64 + d) / 4)] 5)).grownBy w3 u4.ownBlock → URel w B D v' (.int .i64 (R : Int)) (.int .i64 2) (.int .i64 ((k : Int) + 1)) w3 := by
            intro v' w3 ho hg
            refine ⟨k + 1, R, 2, o ++ [y], by rw [Int.natCast_add]; rfl, rfl, rfl, by omega, by omega, hR, by simp; omega, ?_, ?_, HS.out⟩
            · rw [List.length_append, bV_append]
              rw [← hy] at ho
              exact ho
            · exact (hbe.alloc hbe.size _).grown hg (by simp; omega) (fun b hb => (hown.lt b hb).1)
          have FIN := Lib.hid fin
          clear fin hy
          go_wp2_with (first | (go_at_call 210; refine Calls.mono (show Calls _ _ _ _ _ from c2) ?_; rintro e w' ⟨rfl, rfl⟩) | (at_builtin; refine wpList_append_own _ rfl (.tmp 33) (.tmp 38) 153 rfl w.heap.size 5 i0 (.int .u8 0) 1 1 Tryz.underlying153 hi0 hz0 hz1 hz2 rfl (by decide) u4 o.length (bV o) rfl (hown.alloc _) ⟨wr.heap.size, 0, none⟩ 1 1 [.int .u8 (((X : Int) * 64 + d) / 4)] rfl rfl (cell_one_new _ _ _) D2 D3 D4 D5 ?_; intro v' w3 ho3 hg3 _))
          go_roundw
          case rel => exact FIN.out _ w3 ho3 hg3
          case measure => simp [RowKit.intOf]; omega
        · have hor : bits .or .i64 ((X : Int) * 64) (d : Int) = ((X * 64 + d : Nat) : Int) := by
            have := or_low 6 (X * 64) d (by omega) (by omega) (by omega) (by omega)
            simpa using this
          rw [if_pos (by omega)] at hs
          have hand : bits .and .i64 ((X : Int) * 64 + d) 15 = (((X * 64 + d) % 2 ^ 4 : Nat) : Int) := by
            have := and_low 4 (X * 64 + d) 15 (by omega) (by omega) (by omega)
            simpa using this
          have hR := Nat.mod_lt (X * 64 + d) (show 2 ^ 4 > 0 by decide)
          simp only [Nat.reduceSub] at hs
          obtain ⟨R, hRe⟩ : ∃ R, (X * 64 + d) % 2 ^ 4 = R := ⟨_, rfl⟩
          rw [hRe] at hs hand hR
          clear hRe
          have hy : (((UInt8.ofNat ((X * 64 + d) / 2 ^ 4)).toNat : Nat) : Int) = (((X : Int) * 64 + d) / 16) := by
            rw [UInt8.toNat_ofNat']
            omega
          obtain ⟨y, hye⟩ : ∃ y, UInt8.ofNat ((X * 64 + d) / 2 ^ 4) = y := ⟨_, rfl⟩
          rw [hye] at hs hy
          clear hye
          have HS := Lib.hid hs
          clear hs
          obtain ⟨i0, hi0, hz0, hz1, hz2⟩ := info_parts Tryz.infoByte
          have D2 : ∀ u ∈ [Value.int .u8 (((X : Int) * 64 + d) / 16)], u.oneCell' = true := by intro u hu; simp at hu; subst hu; rfl
          have D3 : o.length + 1 ≤ maxLen := by unfold maxLen; omega
          have D4 : (o.length + 1) * 1 ≤ 140737488355328 := by omega
          have D5 : w.heap.size ≤ (wr.alloc (.cells #[.int .u8 (((X : Int) * 64 + d) / 16)] 5)).heap.size := by simp; omega
          have fin : ∀ (v' : Value) (w3 : World), w3.ownsRow w.heap.size 5 1 v' (o.length + 1) (bV o ++ [.int .u8 (((X : Int) * 64 + d) / 16)]) → (wr.alloc (.cells #[.int .u8 (((X : Int) * 64 + d) / 16)] 5)).grownBy w3 u4.ownBlock → URel w B D v' (.int .i64 (R : Int)) (.int .i64 4) (.int .i64 ((k : Int) + 1)) w3 := by
            intro v' w3 ho hg
            refine ⟨k + 1, R, 4, o ++ [y], by rw [Int.natCast_add]; rfl, rfl, rfl, by omega, by omega, hR, by simp; omega, ?_, ?_, HS.out⟩
            · rw [List.length_append, bV_append]
              rw [← hy] at ho
              exact ho
            · exact (hbe.alloc hbe.size _).grown hg (by simp; omega) (fun b hb => (hown.lt b hb).1)
          have FIN := Lib.hid fin
          clear fin hy
          go_wp2_with (first | (go_at_call 210; refine Calls.mono (show Calls _ _ _ _ _ from c2) ?_; rintro e w' ⟨rfl, rfl⟩) | (at_builtin; refine wpList_append_own _ rfl (.tmp 33) (.tmp 38) 153 rfl w.heap.size 5 i0 (.int .u8 0) 1 1 Tryz.underlying153 hi0 hz0 hz1 hz2 rfl (by decide) u4 o.length (bV o) rfl (hown.alloc _) ⟨wr.heap.size, 0, none⟩ 1 1 [.int .u8 (((X : Int) * 64 + d) / 16)] rfl rfl (cell_one_new _ _ _) D2 D3 D4 D5 ?_; intro v' w3 ho3 hg3 _))
          go_roundw
          case rel => exact FIN.out _ w3 ho3 hg3
          case measure => simp [RowKit.intOf]; omega
    · obtain rfl : k = B.length := by omega
      have hs := HG.out
      rw [List.drop_of_length_le (Nat.le_refl _), dgo] at hs
      subst hs
      have hcv := run_str_own (P := Tryz.prog) wr 153 9 5 w.heap.size u4 o Tryz.underlying153 Tryz.underlying5 Tryz.underlying9 hown
      have c3 := Base64_any o wr (by omega)
      have hu := HD.out
      simp only at hu
      obtain ⟨E, hEe⟩ : ∃ E, b64 o = E := ⟨_, rfl⟩
      rw [hEe] at c3 hu
      clear hEe HD HG
      by_cases hes : E = s
      · rw [if_pos hes] at hu
        subst hu hes
        go_wp2_with (go_at_call 30; refine c3.mono ?_; rintro e w2 ⟨rfl, hb2⟩; have hcv2 := run_str_own (P := Tryz.prog) w2 153 9 5 w.heap.size u4 o Tryz.underlying153 Tryz.underlying5 Tryz.underlying9 (own_below hown hb2))
        go_ret2
        exact ⟨rfl, below_ext hbe hb2⟩
      · rw [if_neg hes] at hu
        subst hu
        have hbq : (E == s) = false := beq_eq_false_iff_ne.2 hes
        go_wp2_with (go_at_call 30; refine c3.mono ?_; rintro e w2 ⟨rfl, hb2⟩; have hcv2 := run_str_own (P := Tryz.prog) w2 153 9 5 w.heap.size u4 o Tryz.underlying153 Tryz.underlying5 Tryz.underlying9 (own_below hown hb2))
        go_ret2
        exact ⟨rfl, below_ext hbe hb2⟩
theorem Tryz.wBuilder : (Tryz.prog.info? 155).map (fun i => decide (i.size ≠ 0)) = some true := by kernel_rfl
theorem Tryz.wLies : liesAt Tryz.prog Tryz.prog.depth 157 (2 / Tryz.prog.cellsOf 157) 0 155 1 = true := by kernel_rfl
theorem Tryz.cellsByte : Tryz.prog.cellsOf 5 = 1 := by kernel_rfl
theorem W_used (b : Nat) (w : World) (h0 : w.cell? ⟨b, 0, none⟩ = some (.pointer (some ⟨b, 0, none⟩))) :
    Calls Tryz.prog 224 #[.pointer (some ⟨b, 0, none⟩)] w fun e w' => e = .returned (.tuple #[]) ∧ w' = w := by
  obtain ⟨j, hj, _⟩ := Option.map_eq_some_iff.1 Tryz.wBuilder
  go_enter Tryz.func224, Tryz.ntmps224
  go_wp2
  rw [Lib.run_neq_ptr_same w _ Tryz.underlying152 hj]
  go_wp2
  go_end0
  exact ⟨rfl, rfl⟩
theorem W_fresh (b : Nat) (w : World) (h0 : w.cell? ⟨b, 0, none⟩ = some (.pointer none)) (hsh : w.shape? b = some (157, 2)) (hfz : w.frozen? ⟨b, 0, none⟩ = false) :
    Calls Tryz.prog 224 #[.pointer (some ⟨b, 0, none⟩)] w fun e w' => e = .returned (.tuple #[]) ∧ w' = w.setCell ⟨b, 0, none⟩ (.pointer (some ⟨b, 0, none⟩)) := by
  obtain ⟨j, hj, hjs⟩ := Option.map_eq_some_iff.1 Tryz.wBuilder
  have hjs2 := of_decide_eq_true hjs
  have r1 := Lib.run_to_unsafe (P := Tryz.prog) w ⟨b, 0, none⟩ Tryz.underlying152 Tryz.underlying293 hj hjs2 hsh (Nat.zero_lt_succ 1)
  have r2 := Lib.run_from_unsafe (P := Tryz.prog) w ⟨b, 0, none⟩ Tryz.underlying293 Tryz.underlying152 hj hsh Tryz.wLies
  clear hjs hjs2
  go_enter Tryz.func224, Tryz.ntmps224
  go_wp2
  rw [run_callFunc_extern Tryz.func259 (by kernel_rfl) (by kernel_rfl) (by kernel_rfl) (e := Extern.AbiNoEscape.same) (by kernel_rfl)]
  rw [Lib.run_noEscape]
  simp only [Result.andThen]
  rw [Oper.upon_value]
  go_wp2
  go_end0
  exact ⟨rfl, rfl⟩
def WAt (B b : Nat) (p : Value) (l : List UInt8) (w : World) : Prop := Lib.BuilderAt 157 5 B b p (bV l) w
def IsW (B b : Nat) (l : List UInt8) (w : World) : Prop := Lib.IsBuilder 157 5 B b (bV l) w
def WKept (b : Nat) (w w' : World) : Prop := w.heap.size ≤ w'.heap.size ∧ ∀ (j : Nat) (cs : Array Value) (t : TypeId) (fz : Nat × Nat), w.heap[j]? = some (.cells cs t fz) → j ≠ b → t ≠ 5 → w'.heap[j]? = some (.cells cs t fz)
theorem WKept.refl (b : Nat) (w : World) : WKept b w w := ⟨Nat.le_refl _, fun _ _ _ _ h _ _ => h⟩
theorem WKept.trans {b : Nat} {x y z : World} (h : WKept b x y) (k : WKept b y z) : WKept b x z := ⟨Nat.le_trans h.1 k.1, fun j cs t fz hj hne ht => k.2 j cs t fz (h.2 j cs t fz hj hne ht) hne ht⟩
theorem WKept.of_below {b : Nat} {w w' : World} (h : Below w.heap.size w w') : WKept b w w' := ⟨h.size, fun j _ _ _ hj _ _ => (h.block j (Array.getElem?_eq_some_iff.1 hj).1).trans hj⟩
theorem WKept.set {b : Nat} {x w : World} (h : WKept b x w) (i : Nat) (v : Value) : WKept b x (w.setCell ⟨b, i, none⟩ v) :=
  ⟨by simpa using h.1, fun j cs t fz hj hne ht => (heap_setCell_other w ⟨b, i, none⟩ j v hne).trans (h.2 j cs t fz hj hne ht)⟩
theorem WKept.alloc {b : Nat} {x w : World} (h : WKept b x w) (o : Obj) : WKept b x (w.alloc o) := h.trans (WKept.of_below ((Below.refl _ _).alloc (Nat.le_refl _) o))
theorem WKept.grown {b B n : Nat} {x w w' : World} {v : Value} {xs : List Value} (h : WKept b x w) (ho : w.ownsRow B 5 1 v n xs) (hg : w.grownBy w' v.ownBlock) : WKept b x w' := by
  refine ⟨Nat.le_trans h.1 hg.size, fun j cs t fz hj hne ht => ?_⟩
  have h1 := h.2 j cs t fz hj hne ht
  rw [hg.block j (Array.getElem?_eq_some_iff.1 h1).1 ?_]
  · exact h1
  · intro e
    rcases ho.2 with ⟨hv, _⟩ | ⟨g, cap, cur, hv, _, hh, _⟩
    · rw [hv] at e; cases e
    · rw [hv] at e
      have e2 : j = g := Option.some.inj e
      subst e2
      rw [hh] at h1
      cases h1
      exact ht rfl
theorem W_copyCheck (B b : Nat) (l : List UInt8) (w : World) (h : IsW B b l w) :
    Calls Tryz.prog 224 #[.pointer (some ⟨b, 0, none⟩)] w fun e w' => e = .returned (.tuple #[]) ∧ (WAt B b (.pointer (some ⟨b, 0, none⟩)) l w' ∧ Below B w w' ∧ WKept b w w') := by
  rcases h with h | h
  · refine (W_fresh b w h.cell0 h.shape h.frozen0).mono ?_
    rintro e w' ⟨rfl, rfl⟩
    exact ⟨rfl, h.used _, (Below.refl B w).setCell (p := ⟨b, 0, none⟩) h.1 _, (WKept.refl b w).set 0 _⟩
  · refine (W_used b w h.cell0).mono ?_
    rintro e w' ⟨rfl, rfl⟩
    exact ⟨rfl, h, Below.refl B _, WKept.refl b _⟩
theorem W_Len (B b : Nat) (l : List UInt8) (w : World) (h : IsW B b l w) :
    Calls Tryz.prog 136 #[.pointer (some ⟨b, 0, none⟩)] w fun e w' => e = .returned (.int .i64 l.length) ∧ w = w' := by
  obtain ⟨p, hB, v, hbk, hown, hne⟩ : ∃ p, WAt B b p l w := by
    rcases h with h | h
    · exact ⟨_, h⟩
    · exact ⟨_, h⟩
  rw [bV_length] at hown
  obtain ⟨ao, cap, rfl⟩ : ∃ ao cap, v = .slice ao l.length cap := by
    rcases hown.2 with ⟨hv, h0⟩ | ⟨g, cap, cur, hv, _⟩
    · exact ⟨none, 0, by rw [hv, h0]⟩
    · exact ⟨_, _, hv⟩
  have c1 : w.cell? ⟨b, 1, none⟩ = some (.slice ao l.length cap) := by rw [Lib.cell_of_heap hbk]; rfl
  clear h hbk
  go_enter Tryz.func136, Tryz.ntmps136
  go_wp2
  go_ret
  exact ⟨rfl, rfl⟩
theorem W_WriteByte (B b : Nat) (l : List UInt8) (c : UInt8) (w : World) (h : IsW B b l w) (hlen : l.length ≤ 1099511627776) (hBw : B ≤ w.heap.size) :
    Calls Tryz.prog 135 #[.pointer (some ⟨b, 0, none⟩), .int .u8 (c.toNat : Int)] w fun e w' => e = .returned .nilIface ∧ (IsW B b (l ++ [c]) w' ∧ Below B w w' ∧ WKept b w w') := by
  obtain ⟨i0, hi, hz0, hz1, hz2⟩ := info_parts Tryz.infoByte
  have k1 := W_copyCheck B b l w h
  clear h
  go_enter Tryz.func135, Tryz.ntmps135
  go_wp2_with (go_at_call 224; refine k1.mono ?_)
  rintro e w1 ⟨rfl, h1, hb1, hkw1⟩
  obtain ⟨hB, v, hbk, hown, hne⟩ := h1
  rw [bV_length] at hown
  have c0 : w1.cell? ⟨b, 0, none⟩ = some (.pointer (some ⟨b, 0, none⟩)) := by rw [Lib.cell_of_heap hbk]; rfl
  have c1 : w1.cell? ⟨b, 1, none⟩ = some v := by rw [Lib.cell_of_heap hbk]; rfl
  go_wp2_with (at_builtin; refine wpList_append_own _ rfl _ _ 153 rfl B 5 i0 (.int .u8 0) 1 1 Tryz.underlying153 hi hz0 hz1 hz2 rfl (by decide) _ _ _ rfl (hown.alloc _) ⟨w1.heap.size, 0, none⟩ 1 1 [.int .u8 c.toNat] rfl rfl (cell_one_new _ _ _) ?c2 ?c3 ?c4 ?c5 ?_)
  case c2 => intro u hu; simp at hu; subst hu; rfl
  case c3 => unfold maxLen; omega
  case c4 => omega
  case c5 => have := hb1.size; simp; omega
  intro v' w2 hown' hgrow _
  have hlt : b < w1.heap.size := by
    rcases Nat.lt_or_ge b w1.heap.size with h' | h'
    · exact h'
    · simp [Array.getElem?_eq_none h'] at hbk
  have hb2 : w2.heap[b]? = some (.cells #[.pointer (some ⟨b, 0, none⟩), v] 157 (0, 0)) := by
    rw [hgrow.block b (by simp; omega) (fun e => hne e.symm), Lib.alloc_old w1 _ b hlt]
    exact hbk
  have d0 : w2.cell? ⟨b, 0, none⟩ = some (.pointer (some ⟨b, 0, none⟩)) := by rw [Lib.cell_of_heap hb2]; rfl
  have d1 : w2.cell? ⟨b, 1, none⟩ = some v := by rw [Lib.cell_of_heap hb2]; rfl
  have f1 : w2.frozen? ⟨b, 1, none⟩ = false := Lib.frozen_of_heap hb2 1
  obtain ⟨g, cap, rfl⟩ : ∃ g cap, v' = .slice (some ⟨g, 0, none⟩) (l.length + 1) cap := by
    rcases hown'.2 with ⟨_, h0⟩ | ⟨g, cap, cur, hv, _⟩
    · omega
    · exact ⟨g, cap, hv⟩
  go_wp2
  go_ret
  refine ⟨rfl, .inr ?_, ?_, ((hkw1.alloc _).grown (hown.alloc _) hgrow).set 1 _⟩
  · rw [bV_append]
    exact Lib.BuilderAt.put (T := 157) (e := 5) hB hb2 (bs' := bV l ++ [.int .u8 c.toNat]) (by simpa [bV_length] using hown') (by decide)
  · exact ((hb1.alloc (by have := hb1.size; omega) _).grown hgrow (by have := hb1.size; simp; omega) (fun k hk => (hown.lt k hk).1)).setCell (p := ⟨b, 1, none⟩) hB _
theorem W_WriteString (B b : Nat) (l s : List UInt8) (w : World) (h : IsW B b l w) (hlen : l.length ≤ 1099511627776) (hs : s.length ≤ 8796093022208) (hBw : B ≤ w.heap.size) :
    Calls Tryz.prog 212 #[.pointer (some ⟨b, 0, none⟩), .string ⟨s.toArray⟩] w fun e w' => e = .returned (.tuple #[.int .i64 s.length, .nilIface]) ∧ (IsW B b (l ++ s) w' ∧ Below B w w' ∧ WKept b w w') := by
  obtain ⟨i0, hi, hz0, hz1, hz2⟩ := info_parts Tryz.infoByte
  have k1 := W_copyCheck B b l w h
  clear h
  have hs2 : (⟨s.toArray⟩ : ByteArray).size = s.length := Lib.size_mk _
  go_enter Tryz.func212, Tryz.ntmps212
  go_wp2_with (go_at_call 224; refine k1.mono ?_)
  rintro e w1 ⟨rfl, h1, hb1, hkw1⟩
  obtain ⟨hB, v, hbk, hown, hne⟩ := h1
  rw [bV_length] at hown
  have c0 : w1.cell? ⟨b, 0, none⟩ = some (.pointer (some ⟨b, 0, none⟩)) := by rw [Lib.cell_of_heap hbk]; rfl
  have c1 : w1.cell? ⟨b, 1, none⟩ = some v := by rw [Lib.cell_of_heap hbk]; rfl
  go_wp2_with (at_builtin; refine Lib.wpList_append_own_string _ rfl _ _ 153 9 rfl B 5 i0 Tryz.underlying153 Tryz.underlying9 hi hz0 hz1 hz2 _ _ _ rfl hown ⟨s.toArray⟩ rfl ?c3 ?c4 ?c5 ?_)
  case c3 => unfold maxLen; omega
  case c4 => omega
  case c5 => have := hb1.size; omega
  intro v' w2 hown' hgrow _
  have hlt : b < w1.heap.size := by
    rcases Nat.lt_or_ge b w1.heap.size with h' | h'
    · exact h'
    · simp [Array.getElem?_eq_none h'] at hbk
  have hb2 : w2.heap[b]? = some (.cells #[.pointer (some ⟨b, 0, none⟩), v] 157 (0, 0)) := by
    rw [hgrow.block b hlt (fun e => hne e.symm)]
    exact hbk
  have d0 : w2.cell? ⟨b, 0, none⟩ = some (.pointer (some ⟨b, 0, none⟩)) := by rw [Lib.cell_of_heap hb2]; rfl
  have d1 : w2.cell? ⟨b, 1, none⟩ = some v := by rw [Lib.cell_of_heap hb2]; rfl
  have f1 : w2.frozen? ⟨b, 1, none⟩ = false := Lib.frozen_of_heap hb2 1
  obtain ⟨ao, n', cap, rfl⟩ : ∃ ao n' cap, v' = .slice ao n' cap := by
    rcases hown'.2 with ⟨hv, _⟩ | ⟨g, cap, cur, hv, _⟩
    · exact ⟨_, _, _, hv⟩
    · exact ⟨_, _, _, hv⟩
  go_wp2
  go_ret2
  refine ⟨rfl, .inr ?_, ?_, (hkw1.grown hown hgrow).set 1 _⟩
  · rw [bV_append]
    exact Lib.BuilderAt.put (T := 157) (e := 5) hB hb2 (bs' := bV l ++ bV s) (by simpa [bV_length, strCells_bV] using hown') (by decide)
  · exact (hb1.grown hgrow (by have := hb1.size; omega) (fun k hk => (hown.lt k hk).1)).setCell (p := ⟨b, 1, none⟩) hB _
theorem W_String (B b : Nat) (l : List UInt8) (w : World) (h : IsW B b l w) (h0 : l ≠ []) :
    Calls Tryz.prog 137 #[.pointer (some ⟨b, 0, none⟩)] w fun e w' => e = .returned (.string ⟨l.toArray⟩) ∧ Below B w w' := by
  obtain ⟨p, hB, v, hbk, hown, hne⟩ : ∃ p, WAt B b p l w := by
    rcases h with h | h
    · exact ⟨_, h⟩
    · exact ⟨_, h⟩
  have hl0 : l.length ≠ 0 := by simpa using h0
  rw [bV_length] at hown
  obtain ⟨g, cap, cur, rfl, hbg, hg, hnc, hcm, hcs, htake⟩ : ∃ g cap cur, v = .slice (some ⟨g, 0, none⟩) l.length cap ∧ B ≤ g ∧ w.heap[g]? = some (.cells cur 5 (0, 0)) ∧ l.length ≤ cap ∧ cap ≤ maxLen ∧ cur.size = cap * 1 ∧ cur.toList.take (l.length * 1) = bV l := by
    rcases hown.2 with ⟨_, hz⟩ | ⟨g, cap, cur, hv, r⟩
    · exact absurd hz hl0
    · exact ⟨g, cap, cur, hv, r⟩
  have c1 : w.drew.cell? ⟨b, 1, none⟩ = some (.slice (some ⟨g, 0, none⟩) l.length cap) := by
    have : w.drew.heap[b]? = some (.cells #[p, .slice (some ⟨g, 0, none⟩) l.length cap] 157 (0, 0)) := hbk
    rw [Lib.cell_of_heap this]; rfl
  have hSD : (Builtin.unsafeSliceData_ #[153] 276 #[.slice (some ⟨g, 0, none⟩) l.length cap]).run Tryz.prog w.drew = .ok (.pointer (some ⟨g, 0, none⟩)) w.drew :=
    Lib.run_unsafeSliceData_row _ _ _ _ _ _ (by omega)
  have hUS : (Builtin.unsafeString_ #[276, 3] 9 #[.pointer (some ⟨g, 0, none⟩), .int .i64 l.length]).run Tryz.prog w.drew = .ok (.string ⟨l.toArray⟩) (w.drew.freeze ⟨g, 0, none⟩ l.length) := by
    refine Lib.run_unsafeString_row w.drew 276 3 9 5 Tryz.underlying276 Tryz.cellsByte g cur.size (by have hg' : w.drew.heap[g]? = some (.cells cur 5 (0, 0)) := hg; simp [World.shape?, hg']) l h0 (by omega) (by unfold maxLen at hcm; omega) ?_
    intro j x hx
    exact hown.cells (g := g) rfl j (.int .u8 x.toNat) (by simp [bV, hx])
  clear htake hcs hg h
  go_enter Tryz.func137, Tryz.ntmps137
  go_wp2
  go_region
  all_goals (go_wp2; go_ret; exact ⟨rfl, Lib.below_freeze (Below.drew (Below.refl B w)) (p := ⟨g, 0, none⟩) hbg _⟩)
def okB (c : UInt8) : Bool := decide (32 ≤ c.toNat ∧ c.toNat ≤ 126)
def plainB (v : List UInt8) : Bool := !v.isEmpty && decide (indexByte [32, 58, 60] (v.getD 0 0) < 0) && decide (v.getD (v.length - 1) 0 ≠ 32) && v.all okB
theorem Sign_l (c : UInt8) (w : World) :
    Calls Tryz.prog 210 #[.string ⟨#[32, 58, 60]⟩, .int .u8 (c.toNat : Int)] w fun e w' => e = .returned (.int .i64 (indexByte [32, 58, 60] c)) ∧ w = w' :=
  (Tryz.strings_IndexByte ⟨#[32, 58, 60]⟩ c.toNat w).mono fun e w' ⟨he, hw⟩ => ⟨by simpa using he, hw.symm⟩
def PRel (v : List UInt8) (ANS : Bool) (i : Value) : Prop := ∃ k : Nat, i = .int .i64 (k : Int) ∧ k ≤ v.length ∧ (v.drop k).all okB = ANS
theorem isPlain_any (v : List UInt8) (w : World) (hv : v.length ≤ 1099511627776) :
    Calls Tryz.prog 218 #[.string ⟨v.toArray⟩] w fun e w' => e = .returned (.bool (plainB v)) ∧ w = w' := by
  by_cases h0 : v = []
  · subst h0
    go_enter Tryz.func218, Tryz.ntmps218
    go_wp2
    go_ret
    exact ⟨rfl, rfl⟩
  · have hl : 0 < v.length := List.length_pos_iff.2 h0
    have hne : v.isEmpty = false := by cases v <;> simp_all
    have k1 := Sign_l (v[0]) w
    have e0 : v.getD 0 0 = v[0] := by simp [hl]
    have e1 : v.getD (v.length - 1) 0 = v[v.length - 1] := by rw [List.getD_eq_getElem?_getD, List.getElem?_eq_getElem (by omega)]; rfl
    unfold plainB
    rw [e0, e1, hne]
    obtain ⟨V, hV⟩ : ∃ V, indexByte [32, 58, 60] v[0] = V := ⟨_, rfl⟩
    rw [hV] at k1 ⊢
    clear hV e0 e1
    have hz : (((v.length : Int) - 1).toNat) = v.length - 1 := by omega
    by_cases hV0 : V < 0
    · have q1 : decide (V ≥ 0) = false := decide_eq_false (by omega)
      have q1' : decide (0 ≤ V) = false := decide_eq_false (by omega)
      by_cases hz2 : v[v.length - 1] = 32
      · rw [show (!false && decide (V < 0) && decide (v[v.length - 1] ≠ 32) && v.all okB) = false by simp [hz2]]
        have q2 : ((((⟨v.toArray⟩ : ByteArray)[v.length - 1]'(by rw [Lib.size_mk]; omega)).toNat : Int) == 32) = true := by
          show (((v[v.length - 1]).toNat : Int) == 32) = true
          rw [hz2]; rfl
        clear hz2
        go_enter Tryz.func218, Tryz.ntmps218
        go_wp2_with (go_at_call 210; refine Calls.mono (show Calls _ _ _ _ _ from k1) ?_; rintro e w' ⟨rfl, rfl⟩)
        go_ret
        exact ⟨rfl, rfl⟩
      · obtain ⟨ANS, hA⟩ : ∃ ANS, v.all okB = ANS := ⟨_, rfl⟩
        rw [show (!false && decide (V < 0) && decide (v[v.length - 1] ≠ 32) && v.all okB) = ANS by simp [hz2, hV0, hA]]
        have HA := Lib.hid hA
        have q2 : ((((⟨v.toArray⟩ : ByteArray)[v.length - 1]'(by rw [Lib.size_mk]; omega)).toNat : Int) == 32) = false := by
          show (((v[v.length - 1]).toNat : Int) == 32) = false
          rw [beq_eq_false_iff_ne]
          intro h
          apply hz2
          apply UInt8.toNat.inj
          have : (32 : UInt8).toNat = 32 := rfl
          omega
        clear hz2 hA
        go_enter Tryz.func218, Tryz.ntmps218
        go_wp2_with (go_at_call 210; refine Calls.mono (show Calls _ _ _ _ _ from k1) ?_; rintro e w' ⟨rfl, rfl⟩)
        go_loop [22] (fun i => PRel v ANS i) (fun i => v.length - (RowKit.intOf i).toNat)
        case atStart => exact ⟨0, rfl, by omega, HA.out⟩
        case round =>
          obtain ⟨k, rfl, hk, hall⟩ := hrel
          by_cases hkv : k < v.length
          · rw [List.drop_eq_getElem_cons hkv, List.all_cons] at hall
            have hge : ((⟨v.toArray⟩ : ByteArray)[k]'(by rw [Lib.size_mk]; omega)) = v[k] := rfl
            by_cases hc : okB v[k] = true
            · rw [hc, Bool.true_and] at hall
              have HL := Lib.hid hall
              have hc2 := of_decide_eq_true hc
              rw [← hge] at hc2
              clear hall HA hge hc
              have q3 : decide ((((⟨v.toArray⟩ : ByteArray)[k]'(by rw [Lib.size_mk]; omega)).toNat : Int) < 32) = false := decide_eq_false (by omega)
              have q4 : decide (126 < (((⟨v.toArray⟩ : ByteArray)[k]'(by rw [Lib.size_mk]; omega)).toNat : Int)) = false := decide_eq_false (by omega)
              go_wp2_with fail
              exact ⟨⟨k + 1, by go_num, by omega, HL.out⟩, by simp [RowKit.intOf]; omega⟩
            · rw [show okB v[k] = false by simpa using hc, Bool.false_and] at hall
              subst hall
              have hc2 : ¬ (32 ≤ v[k].toNat ∧ v[k].toNat ≤ 126) := fun h => hc (decide_eq_true h)
              rw [← hge] at hc2
              clear HA hge hc
              by_cases h32 : ((⟨v.toArray⟩ : ByteArray)[k]'(by rw [Lib.size_mk]; omega)).toNat < 32
              · have q3 : decide ((((⟨v.toArray⟩ : ByteArray)[k]'(by rw [Lib.size_mk]; omega)).toNat : Int) < 32) = true := decide_eq_true (by omega)
                go_wp2_with fail
                go_ret
                exact ⟨rfl, rfl⟩
              · have q3 : decide ((((⟨v.toArray⟩ : ByteArray)[k]'(by rw [Lib.size_mk]; omega)).toNat : Int) < 32) = false := decide_eq_false (by omega)
                have q4 : decide (126 < (((⟨v.toArray⟩ : ByteArray)[k]'(by rw [Lib.size_mk]; omega)).toNat : Int)) = true := decide_eq_true (by omega)
                go_wp2_with fail
                go_ret
                exact ⟨rfl, rfl⟩
          · obtain rfl : k = v.length := by omega
            rw [List.drop_of_length_le (Nat.le_refl _)] at hall
            subst hall
            clear HA
            go_wp2_with fail
            go_ret
            exact ⟨rfl, rfl⟩
    · rw [show (!false && decide (V < 0) && decide (v[v.length - 1] ≠ 32) && v.all okB) = false by simp [hV0]]
      have q1 : decide (V ≥ 0) = true := decide_eq_true (by omega)
      have q1' : decide (0 ≤ V) = true := decide_eq_true (by omega)
      go_enter Tryz.func218, Tryz.ntmps218
      go_wp2_with (go_at_call 210; refine Calls.mono (show Calls _ _ _ _ _ from k1) ?_; rintro e w' ⟨rfl, rfl⟩)
      go_ret
      exact ⟨rfl, rfl⟩
theorem app_mk (a b : List UInt8) : (⟨a.toArray⟩ ++ ⟨b.toArray⟩ : ByteArray) = ⟨(a ++ b).toArray⟩ := by
  apply ByteArray.ext
  simp [ByteArray.data_append]
theorem IsW.drew {B b : Nat} {l : List UInt8} {w : World} (h : IsW B b l w) : IsW B b l w.drew := h
theorem IsW.below {B b : Nat} {l : List UInt8} {w w' : World} (h : IsW B b l w) (hb : Below w.heap.size w w') : IsW B b l w' := by
  have : ∀ p, WAt B b p l w → WAt B b p l w' := by
    rintro p ⟨hB, v, hbk, hown, hne⟩
    exact ⟨hB, v, by rw [hb.block b (Array.getElem?_eq_some_iff.1 hbk).1]; exact hbk, own_below hown hb, hne⟩
  exact h.elim (fun x => .inl (this _ x)) (fun x => .inr (this _ x))
def lineB (name v : List UInt8) : List UInt8 := if plainB v then name ++ [58, 32] ++ v ++ [10] else name ++ [58, 58, 32] ++ b64 v ++ [10]
theorem line_any (B b : Nat) (l name v : List UInt8) (w : World) (h : IsW B b l w) (hl : l.length ≤ 1099511627776) (hn : name.length ≤ 1099511627776) (hv : v.length ≤ 1099511627776) (hBw : B ≤ w.heap.size) :
    Calls Tryz.prog 132 #[.pointer (some ⟨b, 0, none⟩), .string ⟨name.toArray⟩, .string ⟨v.toArray⟩] w fun e w' => e = .returned (.tuple #[]) ∧ (IsW B b (l ++ lineB name v) w' ∧ Below B w w' ∧ WKept b w w') := by
  have k1 := isPlain_any v w hv
  unfold lineB
  obtain ⟨q, hq⟩ : ∃ q, plainB v = q := ⟨_, rfl⟩
  rw [hq] at k1 ⊢
  clear hq
  cases q
  · rw [if_neg (by simp)]
    have k2 := Base64_any v w.drew hv
    have hEl := b64_length v.length v (Nat.le_refl _)
    obtain ⟨E, hE⟩ : ∃ E, b64 v = E := ⟨_, rfl⟩
    rw [hE] at k2 hEl ⊢
    clear hE
    have hM : (⟨name.toArray⟩ ++ ⟨#[58, 58, 32]⟩ ++ ⟨E.toArray⟩ ++ ⟨#[10]⟩ : ByteArray) = ⟨(name ++ [58, 58, 32] ++ E ++ [10]).toArray⟩ := by
      rw [app_mk name, app_mk, app_mk]
    have hMl : (name ++ [58, 58, 32] ++ E ++ [10]).length ≤ 8796093022208 := by simp; omega
    obtain ⟨M, hMe⟩ : ∃ M, name ++ [58, 58, 32] ++ E ++ [10] = M := ⟨_, rfl⟩
    rw [hMe] at hM hMl ⊢
    have hEl2 : E.length ≤ 2199023255552 := by omega
    clear hMe hEl
    go_enter Tryz.func132, Tryz.ntmps132
    go_wp2_with (go_at_call 218; refine k1.mono ?_; rintro e w' ⟨rfl, rfl⟩)
    go_region_with (first | (go_at_call 30; refine k2.mono ?_; rintro e w2 ⟨rfl, hb2⟩) | (go_at_call 212; (try rw [hM]); refine (W_WriteString B b l M w2 (IsW.below (IsW.drew h) hb2) hl hMl (Nat.le_trans hBw hb2.size)).mono ?_; rintro e w3 ⟨rfl, hw3, hb3, hkw3⟩))
    all_goals (go_wp2; go_end0; exact ⟨rfl, hw3, ((Below.drew (Below.refl B w)).trans (hb2.mono hBw)).trans hb3, ((WKept.of_below (Below.drew (Below.refl _ w))).trans (WKept.of_below hb2)).trans hkw3⟩)
  · rw [if_pos rfl]
    have hM : (⟨name.toArray⟩ ++ ⟨#[58, 32]⟩ ++ ⟨v.toArray⟩ ++ ⟨#[10]⟩ : ByteArray) = ⟨(name ++ [58, 32] ++ v ++ [10]).toArray⟩ := by
      rw [app_mk name, app_mk, app_mk]
    have hMl : (name ++ [58, 32] ++ v ++ [10]).length ≤ 8796093022208 := by simp; omega
    obtain ⟨M, hMe⟩ : ∃ M, name ++ [58, 32] ++ v ++ [10] = M := ⟨_, rfl⟩
    rw [hMe] at hM hMl ⊢
    clear hMe
    have k3 := W_WriteString B b l M w h hl hMl hBw
    go_enter Tryz.func132, Tryz.ntmps132
    go_wp2_with (first | (go_at_call 218; refine k1.mono ?_; rintro e w' ⟨rfl, rfl⟩) | (go_at_call 212; (try rw [hM]); refine k3.mono ?_; rintro e w3 ⟨rfl, hw3, hb3, hkw3⟩))
    (try simp only [Exit.inBlock, Exit.then])
    refine bodyPost_ret (results_none rfl _ _ _) rfl ?_
    exact ⟨rfl, hw3, hb3, hkw3⟩
abbrev At := List UInt8 × List (List UInt8)
abbrev Md := Int × List UInt8 × List (List UInt8)
structure Chg where
  time : List UInt8
  who : List UInt8
  dn : List UInt8
  kind : Int
  attrs : List At
  mods : List Md
  newRdn : List UInt8
  newSup : List UInt8
  delOld : Bool
  hasSup : Bool
def kindW (k : Int) : List UInt8 := if k = 0 then [97, 100, 100] else if k = 1 then [100, 101, 108, 101, 116, 101] else if k = 2 then [109, 111, 100, 105, 102, 121] else [109, 111, 100, 114, 100, 110]
def opW (k : Int) : List UInt8 := if k = 0 then [97, 100, 100] else if k = 1 then [100, 101, 108, 101, 116, 101] else [114, 101, 112, 108, 97, 99, 101]
def valsB (t : List UInt8) (vs : List (List UInt8)) : List UInt8 := vs.flatMap fun v => lineB t v
def attrB (al : List At) : List UInt8 := al.flatMap fun a => valsB a.1 a.2
def modB1 (m : Md) : List UInt8 := lineB (opW m.1) m.2.1 ++ valsB m.2.1 m.2.2 ++ [45, 10]
def modB (ms : List Md) : List UInt8 := ms.flatMap modB1
def moveB (c : Chg) : List UInt8 :=
  lineB [110, 101, 119, 114, 100, 110] c.newRdn ++ lineB [100, 101, 108, 101, 116, 101, 111, 108, 100, 114, 100, 110] (if c.delOld then [49] else [48]) ++ (if c.hasSup then lineB [110, 101, 119, 115, 117, 112, 101, 114, 105, 111, 114] c.newSup else [])
def restC (c : Chg) : List UInt8 := if c.kind = 0 then attrB c.attrs else if c.kind = 2 then modB c.mods else if c.kind = 3 then moveB c else []
def headC (c : Chg) : List UInt8 := lineB [116, 105, 109, 101] c.time ++ lineB [119, 104, 111] c.who ++ lineB [100, 110] c.dn ++ lineB [99, 104, 97, 110, 103, 101, 116, 121, 112, 101] (kindW c.kind)
def textC (c : Chg) : List UInt8 := headC c ++ restC c ++ [10]
def attrsOk : Option (List UInt8) → List At → Bool
  | _, [] => true
  | p, a :: t => isTyB a.1 && !a.2.isEmpty && !(p == some a.1) && attrsOk (some a.1) t
def modsOk (ms : List Md) : Bool := ms.all fun m => decide (0 ≤ m.1) && decide (m.1 ≤ 2) && isTyB m.2.1
def onlyC (c : Chg) : Bool :=
  decide (0 ≤ c.kind) && decide (c.kind ≤ 3) && (decide (c.kind = 0) || c.attrs.isEmpty) && (decide (c.kind = 2) || c.mods.isEmpty) && (c.newSup.isEmpty || c.hasSup) && (decide (c.kind = 3) || (c.newRdn.isEmpty && !c.delOld && !c.hasSup))
def rightC (c : Chg) : Bool := onlyC c && attrsOk none c.attrs && modsOk c.mods
def printC (c : Chg) : List UInt8 × Int :=
  if rightC c = false then ([], 110)
  else if 65536 < (textC c).length then ([], 2)
  else (textC c, 0)
theorem alloc_at (Y : World) (o : Obj) (n : Nat) (h : n = Y.heap.size) : (Y.alloc o).heap[n]? = some o := by subst h; show (Y.heap.push o)[Y.heap.size]? = some o; simp
theorem run_lay {P : Program} (w : World) (mty kt et : TypeId) (r clock : Nat) (es : Array MapEntry) (k : Int) (val : Value) (hm : P.underlying mty = some (.map kt et)) (hk : P.underlying kt = some (.int .i64)) (hb : w.heap[r]? = some (.map es clock))
    (hf : Instr.findNow (.int .i64) (.int .i64 k) es.toList 0 = some none) :
    (Instr.mapUpdate mty (.map (some r)) (.int .i64 k) val).run P w = .ok () { w with heap := w.heap.setIfInBounds r (.map (es.push { key := .int .i64 k, val := val, born := clock }) (clock + 1)) } := by
  have hc : (Instr.checkKey false 10000 kt (.int .i64 k)).run P w = .ok () w := MapKept.run_checkKey (k := .int .i64 k) hk (by simp [MapKept.IsKey]) false 9999
  simp [Instr.mapUpdate, run_underlying hm, MapKept.run_getObj_map hb, hc, MapKept.run_findKey hk hf, MapKept.run_setObj_map _ hb, Result.andThen]
theorem run_lay_ex {P : Program} (w : World) (mty kt et : TypeId) (r clock : Nat) (es : Array MapEntry) (k : Int) (val : Value) (hm : P.underlying mty = some (.map kt et)) (hk : P.underlying kt = some (.int .i64)) (hb : w.heap[r]? = some (.map es clock))
    (hf : Instr.findNow (.int .i64) (.int .i64 k) es.toList 0 = some none) :
    ∃ w', (Instr.mapUpdate mty (.map (some r)) (.int .i64 k) val).run P w = .ok () w' ∧ w'.heap[r]? = some (.map (es.push { key := .int .i64 k, val := val, born := clock }) (clock + 1)) ∧ w'.heap.size = w.heap.size ∧ (∀ j, j ≠ r → w'.heap[j]? = w.heap[j]?) ∧ w'.os = w.os ∧ w'.tape = w.tape ∧ w'.output = w.output := by
  refine ⟨_, run_lay w mty kt et r clock es k val hm hk hb hf, ?_, ?_, ?_, rfl, rfl, rfl⟩
  · have := (Array.getElem?_eq_some_iff.1 hb).1
    simp [this]
  · simp
  · intro j hj
    simp [Ne.symm hj]
theorem run_find {P : Program} (w : World) (mty kt et : TypeId) (r clock i : Nat) (es : Array MapEntry) (k : Int) (val : Value) (hm : P.underlying mty = some (.map kt et)) (hk : P.underlying kt = some (.int .i64)) (hb : w.heap[r]? = some (.map es clock)) (he : es.isEmpty = false)
    (hf : Instr.findNow (.int .i64) (.int .i64 k) es.toList 0 = some (some (i, val))) :
    (Instr.lookup mty (.map (some r)) (.int .i64 k) false).run P w = .ok val w := by
  have hc : (Instr.checkKey false 10000 kt (.int .i64 k)).run P w = .ok () w := MapKept.run_checkKey (k := .int .i64 k) hk (by simp [MapKept.IsKey]) false 9999
  simp [Instr.lookup, run_underlying hm, MapKept.run_getObj_map hb, he, hc, MapKept.run_findKey hk hf, Result.andThen]
end Go.Proofs.YtegigcneimjimaaGreatDoor
