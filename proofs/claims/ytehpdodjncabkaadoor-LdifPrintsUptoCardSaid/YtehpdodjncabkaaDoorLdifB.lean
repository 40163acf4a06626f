/- ldif.Base64: what it returns, for all bytes. -/
import Derived.Test.YtehpdodjncabkaaDoorBase
import Derived.Test.YtehpdodjncabkaaDoorPlainBase
import Derived.Lib.QuoteBits
namespace Go.Proofs.YtehpdodjncabkaaDoor
open Go.RowKit Go.Lib

theorem Tryd.infoByte : (Tryd.prog.info? 5).map (fun i => (i.zero, i.size, i.bytes)) = some (some (.int .u8 0), 1, 1) := by kernel_rfl
/-- The bytes of a chunk as one number. -/
def xr (r : List UInt8) : Nat → Nat
  | 0 => 0
  | j + 1 => xr r j * 256 + (r.getD j 0).toNat
theorem xr_lt (r : List UInt8) : ∀ j, xr r j < 256 ^ j
  | 0 => by simp [xr]
  | j + 1 => by
    have := xr_lt r j
    have hb := UInt8.toNat_lt (r.getD j 0)
    rw [xr, Nat.pow_succ]
    omega
theorem wraps_i64 (n : Int) (h₀ : 0 ≤ n) (h₁ : n < 2 ^ 63) : IntKind.i64.wrap n = n := by
  obtain ⟨m, rfl⟩ := Int.eq_ofNat_of_zero_le h₀
  exact wrap_i64_small m (by omega)
theorem or_low (i : Nat) (x y : Nat) (hi : i < 60) (hx : x % 2 ^ i = 0) (hx₁ : x < 2 ^ 62) (hy : y < 2 ^ i) : bits .or .i64 (x : Int) (y : Int) = ((x + y : Nat) : Int) := by
  have hp : 2 ^ i < 2 ^ 60 := Nat.pow_lt_pow_right (by omega) hi
  rw [bits_join .i64 63 (by decide) wraps_i64 i (x : Int) (y : Int) (by omega) (by exact_mod_cast hx) (by omega) (by omega) (by exact_mod_cast hy) (by omega)]
  rfl
theorem and_low (m x y : Nat) (hm : m < 60) (hy : y = 2 ^ m - 1) (hx : x < 2 ^ 62) : bits .and .i64 (x : Int) (y : Int) = ((x % 2 ^ m : Nat) : Int) := by
  have hp : 2 ^ m < 2 ^ 60 := Nat.pow_lt_pow_right (by omega) hm
  show IntKind.i64.wrap ((BitVec.ofInt 64 (x : Int) &&& BitVec.ofInt 64 (y : Int)).toNat : Int) = _
  rw [BitVec.toNat_and, ofInt_u64 x (by omega), ofInt_u64 y (by omega), hy, Nat.and_two_pow_sub_one_eq_mod]
  exact wrap_i64_small _ (by have := Nat.mod_le x (2 ^ m); omega)
theorem wrap64_small (x : Nat) (h : x < 2 ^ 62) : wrap64 (x : Int) = (x : Int) := by unfold wrap64; omega
theorem xr_step (r : List UInt8) (j : Nat) (hj : j < 3) (h : j < r.length) : bits .or .i64 (wrap64 ((xr r j : Int) * 256)) (wrap64 (((⟨r.toArray⟩ : ByteArray)[j]'(by rw [Lib.size_mk]; exact h)).toNat : Int)) = (xr r (j + 1) : Nat) := by
  have h1 := xr_lt r j
  have h2 : 256 ^ j ≤ 256 ^ 2 := Nat.pow_le_pow_right (by omega) (by omega)
  have hb := UInt8.toNat_lt (r[j])
  have e : ((⟨r.toArray⟩ : ByteArray)[j]'(by rw [Lib.size_mk]; exact h)) = r[j] := rfl
  rw [e, wrap64_small _ (by omega), show (xr r j : Int) * 256 = ((xr r j * 256 : Nat) : Int) by omega, wrap64_small _ (by omega), or_low 8 _ _ (by omega) (by omega) (by omega) (by omega), xr]
  simp [h]
theorem xr_step0 (r : List UInt8) (j : Nat) (hj : j < 3) (h : ¬ j < r.length) : wrap64 ((xr r j : Int) * 256) = (xr r (j + 1) : Nat) := by
  have h1 := xr_lt r j
  have h2 : 256 ^ j ≤ 256 ^ 2 := Nat.pow_le_pow_right (by omega) (by omega)
  rw [show (xr r j : Int) * 256 = ((xr r j * 256 : Nat) : Int) by omega, wrap64_small _ (by omega), xr]
  have e : r.getD j 0 = 0 := by rw [List.getD_eq_getElem?_getD, List.getElem?_eq_none (by omega)]; rfl
  rw [e]
  simp
def qd (r : List UInt8) (i : Nat) : UInt8 := if r.length < i then 61 else dig (xr r 3 / 2 ^ (18 - 6 * i) % 64)
theorem quad_qd (r : List UInt8) (h : r ≠ []) : quad r = [qd r 0, qd r 1, qd r 2, qd r 3] := by
  match r, h with
  | [a], _ =>
    have ha := UInt8.toNat_lt a
    have hX : xr [a] 3 = a.toNat * 65536 := by simp [xr]; omega
    have e0 : qd [a] 0 = dig (a.toNat / 4) := by rw [qd, hX, if_neg (by simp)]; congr 1; simp only [Nat.mul_zero, Nat.sub_zero, Nat.reducePow]; omega
    have e1 : qd [a] 1 = dig (a.toNat % 4 * 16) := by rw [qd, hX, if_neg (by simp)]; congr 1; simp only [Nat.mul_one, Nat.reduceSub, Nat.reducePow]; omega
    rw [e0, e1]; rfl
  | [a, b], _ =>
    have ha := UInt8.toNat_lt a
    have hb := UInt8.toNat_lt b
    have hX : xr [a, b] 3 = a.toNat * 65536 + b.toNat * 256 := by simp [xr]; omega
    have e0 : qd [a, b] 0 = dig (a.toNat / 4) := by rw [qd, hX, if_neg (by simp)]; congr 1; simp only [Nat.mul_zero, Nat.sub_zero, Nat.reducePow]; omega
    have e1 : qd [a, b] 1 = dig (a.toNat % 4 * 16 + b.toNat / 16) := by rw [qd, hX, if_neg (by simp)]; congr 1; simp only [Nat.mul_one, Nat.reduceSub, Nat.reducePow]; omega
    have e2 : qd [a, b] 2 = dig (b.toNat % 16 * 4) := by rw [qd, hX, if_neg (by simp)]; congr 1; simp only [Nat.reduceMul, Nat.reduceSub, Nat.reducePow]; omega
    rw [e0, e1, e2]; rfl
  | a :: b :: c :: t, _ =>
    have ha := UInt8.toNat_lt a
    have hb := UInt8.toNat_lt b
    have hc := UInt8.toNat_lt c
    have hX : xr (a :: b :: c :: t) 3 = a.toNat * 65536 + b.toNat * 256 + c.toNat := by simp [xr]; omega
    have e0 : qd (a :: b :: c :: t) 0 = dig (a.toNat / 4) := by rw [qd, hX, if_neg (by simp)]; congr 1; simp only [Nat.mul_zero, Nat.sub_zero, Nat.reducePow]; omega
    have e1 : qd (a :: b :: c :: t) 1 = dig (a.toNat % 4 * 16 + b.toNat / 16) := by rw [qd, hX, if_neg (by simp)]; congr 1; simp only [Nat.mul_one, Nat.reduceSub, Nat.reducePow]; omega
    have e2 : qd (a :: b :: c :: t) 2 = dig (b.toNat % 16 * 4 + c.toNat / 64) := by rw [qd, hX, if_neg (by simp)]; congr 1; simp only [Nat.reduceMul, Nat.reduceSub, Nat.reducePow]; omega
    have e3 : qd (a :: b :: c :: t) 3 = dig (c.toNat % 64) := by rw [qd, hX, if_neg (by simp)]; congr 1; simp only [Nat.reduceMul, Nat.reduceSub, Nat.reducePow]; omega
    rw [e0, e1, e2, e3]; rfl
theorem quad_get (r : List UInt8) (h : r ≠ []) (i : Nat) (hi : i < 4) : (quad r).take (i + 1) = (quad r).take i ++ [qd r i] := by
  rw [quad_qd r h]
  match i, hi with
  | 0, _ => rfl
  | 1, _ => rfl
  | 2, _ => rfl
  | 3, _ => rfl
def QRel (w : World) (o r : List UInt8) (v k : Value) (wq : World) : Prop :=
  ∃ (i : Nat) (o' : List UInt8), k = .int .i64 (i : Int) ∧ i ≤ 4 ∧ o' = o ++ (quad r).take i ∧ wq.ownsRow w.heap.size 5 1 v o'.length (bV o') ∧ Below w.heap.size w wq
def BRel (w : World) (ANS : List UInt8) (b v : Value) (wr : World) : Prop :=
  ∃ r o : List UInt8, b = .string ⟨r.toArray⟩ ∧ r.length ≤ 1099511627776 ∧ o.length + 4 * r.length ≤ 8796093022208 ∧ wr.ownsRow w.heap.size 5 1 v o.length (bV o) ∧ Below w.heap.size w wr ∧ o ++ b64 r = ANS

set_option maxRecDepth 100000 in
set_option maxHeartbeats 2000000 in
theorem Base64_any (l : List UInt8) (w : World) (hl : l.length ≤ 1099511627776) :
    Calls Tryd.prog 17 #[.string ⟨l.toArray⟩] w fun e w' => e = .returned (.string ⟨(b64 l).toArray⟩) ∧ Below w.heap.size w w' := by
  obtain ⟨ANS, hN⟩ : ∃ ANS, b64 l = ANS := ⟨_, rfl⟩
  rw [hN]
  have HN := Lib.hid hN
  clear hN
  go_enter Tryd.func17, Tryd.ntmps17
  go_wp2_with fail
  go_loopw [0, 3] (fun b v wr => BRel w ANS b v wr) (fun b _ _ => (match b with | .string s => s.size | _ => 0))
  case atStart => exact ⟨l, [], rfl, hl, by simp; omega, World.ownsRow_nil _ _ _ _, Below.refl _ _, HN.out⟩
  case round =>
    obtain ⟨r, o, rfl, hr, ho, hown, hbe, hans⟩ := hrel
    have HA := Lib.hid hans
    clear hans HN
    by_cases hr0 : r = []
    · subst hr0
      have hs := HA.out
      rw [b64_nil, List.append_nil] at hs
      subst hs
      have hcv := run_str_own (P := Tryd.prog) wr 41 9 5 w.heap.size u3 o Tryd.underlying41 Tryd.underlying5 Tryd.underlying9 hown
      go_wp2_with fail
      go_ret
      exact ⟨rfl, hbe⟩
    · have hr1 : 0 < r.length := by cases r <;> simp_all
      have hne : r.isEmpty = false := by cases r <;> simp_all
      go_wp2_with fail
      go_loopw [4, 14] (fun x k wq => ∃ j : Nat, k = .int .i64 (j : Int) ∧ j ≤ 3 ∧ x = .int .i64 (xr r j : Nat) ∧ wq = wr) (fun _ k _ => (3 - RowKit.intOf k).toNat)
      case atStart => exact ⟨0, rfl, by omega, rfl, rfl⟩
      case round =>
        obtain ⟨j, rfl, hj, rfl, rfl⟩ := hrel
        by_cases hj3 : j < 3
        · by_cases hjr : j < r.length
          · have hst := xr_step r j hj3 hjr
            go_wp2_with fail
            refine ⟨⟨j + 1, by go_num, by omega, ?_, trivial⟩, ?_⟩
            · first | rfl | rw [hst]
            · show (3 - ((j : Int) + 1)).toNat < (3 - (j : Int)).toNat
              omega
          · have hst := xr_step0 r j hj3 hjr
            go_wp2_with fail
            refine ⟨⟨j + 1, by go_num, by omega, ?_, trivial⟩, ?_⟩
            · first | rfl | rw [hst]
            · show (3 - ((j : Int) + 1)).toNat < (3 - (j : Int)).toNat
              omega
        · obtain rfl : j = 3 := by omega
          have hX := xr_lt r 3
          obtain ⟨X, hXe⟩ : ∃ X, xr r 3 = X := ⟨_, rfl⟩
          rw [hXe] at hX ⊢
          go_wp2_with fail
          go_loopw [3, 30] (fun v k wq => QRel w o r v k wq) (fun _ k _ => (4 - RowKit.intOf k).toNat)
          case atStart => exact ⟨0, o, rfl, by omega, by simp, hown, hbe⟩
          case round =>
            clear hown hbe
            obtain ⟨i, o', rfl, hi, ho', hown, hbe⟩ := hrel
            have hsz := hbe.size
            have hbl : o.length + 4 ≤ 8796093022208 + 4 := by omega
            have hol : o'.length ≤ o.length + i := by rw [ho', List.length_append, List.length_take]; omega
            by_cases hi4 : i < 4
            · have hq := quad_get r hr0 i hi4
              obtain ⟨x, hx⟩ : ∃ x, qd r i = x := ⟨_, rfl⟩
              rw [hx] at hq
              have ho2 : o' ++ [x] = o ++ (quad r).take (i + 1) := by rw [hq, ho', List.append_assoc]
              obtain ⟨i0, hi0, hz0, hz1, hz2⟩ := info_parts Tryd.infoByte
              have D2 : ∀ u ∈ [Value.int .u8 x.toNat], u.oneCell' = true := by intro u hu; simp at hu; subst hu; rfl
              have D3 : o'.length + 1 ≤ maxLen := by unfold maxLen; omega
              have D4 : (o'.length + 1) * 1 ≤ 140737488355328 := by omega
              have D5 : w.heap.size ≤ (wr.alloc (.cells #[.int .u8 x.toNat] 5)).heap.size := by simp; omega
              have fin : ∀ (v' : Value) (w3 : World), w3.ownsRow w.heap.size 5 1 v' (o'.length + 1) (bV o' ++ [.int .u8 x.toNat]) → (wr.alloc (.cells #[.int .u8 x.toNat] 5)).grownBy w3 u3.ownBlock → QRel w o r v' (.int .i64 ((i : Int) + 1)) w3 := by
                intro v' w3 ho hg
                refine ⟨i + 1, o' ++ [x], by rw [Int.natCast_add]; rfl, by omega, ho2, ?_, ?_⟩
                · rw [List.length_append, bV_append]
                  exact ho
                · exact (hbe.alloc hbe.size _).grown hg (by simp; omega) (fun b hb => (hown.lt b hb).1)
              have FIN := Lib.hid fin
              have HO := Lib.hid ho2
              clear fin ho2 hq ho'
              by_cases hir : r.length < i
              · have hx61 : x = 61 := by rw [← hx, qd, if_pos hir]
                subst hx61
                clear hx
                go_wp2_with (at_builtin; refine wpList_append_own _ rfl (.tmp 37) (.tmp 38) 41 rfl w.heap.size 5 i0 (.int .u8 0) 1 1 Tryd.underlying41 hi0 hz0 hz1 hz2 rfl (by decide) u3 o'.length (bV o') rfl (hown.alloc _) ⟨wr.heap.size, 0, none⟩ 1 1 [.int .u8 ((61 : UInt8).toNat)] rfl rfl (cell_one_new _ _ _) D2 D3 D4 D5 ?_; intro v' w3 ho3 hg3 _)
                go_roundw
                case rel => exact ⟨_, _, _, _, _, _, _, _, _, _, _, _, _, _, _, _, _, _, _, _, _, _, _, FIN.out _ w3 ho3 hg3, rfl⟩
                case measure => simp [RowKit.intOf]; omega
              · have hx2 : dig (X / 2 ^ (18 - 6 * i) % 64) = x := by rw [← hx, qd, if_neg hir, hXe]
                clear hx
                have hn := Nat.mod_lt (X / 2 ^ (18 - 6 * i)) (show 64 > 0 by omega)
                obtain ⟨n, hnx⟩ : ∃ n, X / 2 ^ (18 - 6 * i) % 64 = n := ⟨_, rfl⟩
                rw [hnx] at hx2 hn
                have hlit : ∀ h, (⟨#[65, 66, 67, 68, 69, 70, 71, 72, 73, 74, 75, 76, 77, 78, 79, 80, 81, 82, 83, 84, 85, 86, 87, 88, 89, 90, 97, 98, 99, 100, 101, 102, 103, 104, 105, 106, 107, 108, 109, 110, 111, 112, 113, 114, 115, 116, 117, 118, 119, 120, 121, 122, 48, 49, 50, 51, 52, 53, 54, 55, 56, 57, 43, 47]⟩ : ByteArray)[n]'h = x := by
                  intro h
                  rw [← hx2, dig, List.getD_eq_getElem?_getD]
                  show tab64[n]'hn = _
                  rw [List.getElem?_eq_getElem hn]
                  rfl
                clear hx2
                match i, hi4 with
                | 0, _ =>
                  have hand : bits .and .i64 ((X : Int) / 262144) 63 = (n : Int) := by
                    rw [← hnx]
                    have := and_low 6 (X / 262144) 63 (by omega) (by omega) (by omega)
                    simpa using this
                  clear hnx
                  go_wp2_with (at_builtin; (try simp only [hlit]); refine wpList_append_own _ rfl (.tmp 40) (.tmp 48) 41 rfl w.heap.size 5 i0 (.int .u8 0) 1 1 Tryd.underlying41 hi0 hz0 hz1 hz2 rfl (by decide) u3 o'.length (bV o') rfl (hown.alloc _) ⟨wr.heap.size, 0, none⟩ 1 1 [.int .u8 x.toNat] rfl rfl (cell_one_new _ _ _) D2 D3 D4 D5 ?_; intro v' w3 ho3 hg3 _)
                  go_roundw
                  case rel => exact ⟨_, _, _, FIN.out _ w3 ho3 hg3, rfl, rfl, rfl⟩
                  case measure => decide
                | 1, _ =>
                  have hand : bits .and .i64 ((X : Int) / 4096) 63 = (n : Int) := by
                    rw [← hnx]
                    have := and_low 6 (X / 4096) 63 (by omega) (by omega) (by omega)
                    simpa using this
                  clear hnx
                  go_wp2_with (at_builtin; (try simp only [hlit]); refine wpList_append_own _ rfl (.tmp 40) (.tmp 48) 41 rfl w.heap.size 5 i0 (.int .u8 0) 1 1 Tryd.underlying41 hi0 hz0 hz1 hz2 rfl (by decide) u3 o'.length (bV o') rfl (hown.alloc _) ⟨wr.heap.size, 0, none⟩ 1 1 [.int .u8 x.toNat] rfl rfl (cell_one_new _ _ _) D2 D3 D4 D5 ?_; intro v' w3 ho3 hg3 _)
                  go_roundw
                  case rel => exact ⟨_, _, _, FIN.out _ w3 ho3 hg3, rfl, rfl, rfl⟩
                  case measure => decide
                | 2, _ =>
                  have hand : bits .and .i64 ((X : Int) / 64) 63 = (n : Int) := by
                    rw [← hnx]
                    have := and_low 6 (X / 64) 63 (by omega) (by omega) (by omega)
                    simpa using this
                  clear hnx
                  go_wp2_with (at_builtin; (try simp only [hlit]); refine wpList_append_own _ rfl (.tmp 40) (.tmp 48) 41 rfl w.heap.size 5 i0 (.int .u8 0) 1 1 Tryd.underlying41 hi0 hz0 hz1 hz2 rfl (by decide) u3 o'.length (bV o') rfl (hown.alloc _) ⟨wr.heap.size, 0, none⟩ 1 1 [.int .u8 x.toNat] rfl rfl (cell_one_new _ _ _) D2 D3 D4 D5 ?_; intro v' w3 ho3 hg3 _)
                  go_roundw
                  case rel => exact ⟨_, _, _, FIN.out _ w3 ho3 hg3, rfl, rfl, rfl⟩
                  case measure => decide
                | 3, _ =>
                  have hand : bits .and .i64 ((X : Int)) 63 = (n : Int) := by
                    rw [← hnx]
                    have := and_low 6 (X / 1) 63 (by omega) (by omega) (by omega)
                    simpa using this
                  clear hnx
                  go_wp2_with (at_builtin; (try simp only [hlit]); refine wpList_append_own _ rfl (.tmp 40) (.tmp 48) 41 rfl w.heap.size 5 i0 (.int .u8 0) 1 1 Tryd.underlying41 hi0 hz0 hz1 hz2 rfl (by decide) u3 o'.length (bV o') rfl (hown.alloc _) ⟨wr.heap.size, 0, none⟩ 1 1 [.int .u8 x.toNat] rfl rfl (cell_one_new _ _ _) D2 D3 D4 D5 ?_; intro v' w3 ho3 hg3 _)
                  go_roundw
                  case rel => exact ⟨_, _, _, FIN.out _ w3 ho3 hg3, rfl, rfl, rfl⟩
                  case measure => decide
            · obtain rfl : i = 4 := by omega
              have hlen : 4 ≤ (quad r).length := by rw [quad_length r hr0]; omega
              rw [List.take_of_length_le (by rw [quad_length r hr0]; omega)] at ho'
              have hs := HA.out
              rw [b64_step r hr0, ← List.append_assoc, ← ho'] at hs
              have HS := Lib.hid hs
              have holen : o'.length = o.length + 4 := by rw [ho', List.length_append, quad_length r hr0]
              clear hs ho' hlen
              go_wp2_with fail
              have hex : (⟨r.toArray⟩ : ByteArray).extract (min 3 (r.length : Int)).toNat r.length = ⟨(r.drop 3).toArray⟩ := by
                rw [Lib.extract_mk]
                rcases Nat.lt_or_ge r.length 3 with h3 | h3
                · rw [show (min 3 (r.length : Int)).toNat = r.length by omega, List.drop_of_length_le (Nat.le_refl _), List.drop_of_length_le (by omega)]
                  simp
                · rw [show (min 3 (r.length : Int)).toNat = 3 by omega, List.take_of_length_le (by rw [List.length_drop]; omega)]
              refine ⟨⟨r.drop 3, o', by rw [hex], by rw [List.length_drop]; omega, ?_, hown, hbe, HS.out⟩, ?_⟩
              · rw [List.length_drop]
                omega
              · rw [hex]
                show (⟨(r.drop 3).toArray⟩ : ByteArray).size < (⟨r.toArray⟩ : ByteArray).size
                rw [Lib.size_mk, Lib.size_mk, List.length_drop]
                omega
end Go.Proofs.YtehpdodjncabkaaDoor
