/- Plain laws of chapter 18: the document's way to read base 64. No program in sight. -/
import Derived.Test.YtgdnekhndmijpaaDoorPlainBase
namespace Go.Proofs.YtgdnekhndmijpaaDoor
open Go.Lib

def dg (c : UInt8) : Nat := (indexByte tab64 c).toNat
def bad (c : UInt8) : Bool := decide (indexByte tab64 c < 0)
def rn (c d : UInt8) : Nat := if bad c then 1 else if bad d then 2 else 3
def rv (a b c d : UInt8) : Nat := ((dg a * 64 + dg b) * 64 + dg c) * 64 + dg d
def rthree (a b c d : UInt8) : List UInt8 := [UInt8.ofNat (rv a b c d / 65536), UInt8.ofNat (rv a b c d / 256 % 256), UInt8.ofNat (rv a b c d % 256)]
def rchunk : List UInt8 → List UInt8
  | a :: b :: c :: d :: _ => (rthree a b c d).take (rn c d)
  | _ => []
def rdecg : Nat → List UInt8 → List UInt8
  | 0, _ => []
  | n + 1, s => if s.length < 4 then [] else rchunk s ++ rdecg n (s.drop 4)
def rdec (s : List UInt8) : List UInt8 := rdecg s.length s
theorem rdecg_fuel : ∀ (n m : Nat) (l : List UInt8), l.length ≤ n → l.length ≤ m → rdecg n l = rdecg m l
  | 0, 0, _, _, _ => rfl
  | 0, m + 1, l, h, _ => by obtain rfl : l = [] := List.eq_nil_of_length_eq_zero (by omega); rfl
  | n + 1, 0, l, _, h => by obtain rfl : l = [] := List.eq_nil_of_length_eq_zero (by omega); rfl
  | n + 1, m + 1, l, h1, h2 => by
    by_cases h : l.length < 4
    · rw [rdecg, rdecg, if_pos h, if_pos h]
    · rw [rdecg, rdecg, if_neg h, if_neg h, rdecg_fuel n m (l.drop 4) (by rw [List.length_drop]; omega) (by rw [List.length_drop]; omega)]
theorem rdec_end (l : List UInt8) (h : l.length < 4) : rdec l = [] := by
  unfold rdec
  cases hn : l.length with
  | zero => rfl
  | succ n => rw [rdecg, if_pos h]
theorem rdec_step (l : List UInt8) (h : 4 ≤ l.length) : rdec l = rchunk l ++ rdec (l.drop 4) := by
  obtain ⟨n, hn⟩ : ∃ n, l.length = n + 1 := ⟨l.length - 1, by omega⟩
  unfold rdec
  rw [hn, rdecg, if_neg (by omega)]
  rw [rdecg_fuel n (l.drop 4).length (l.drop 4) (by rw [List.length_drop]; omega) (Nat.le_refl _)]
theorem dg_dig (n : Nat) (h : n < 64) : dg (dig n) = n := by unfold dg; rw [(dig_ne n h).2]; rfl
theorem bad_dig (n : Nat) (h : n < 64) : bad (dig n) = false := by unfold bad; rw [(dig_ne n h).2]; exact decide_eq_false (by omega)
theorem dg_61 : dg 61 = 0 := by decide +kernel
theorem bad_61 : bad 61 = true := by decide +kernel
theorem dg_lt (c : UInt8) : dg c < 64 := by have := tab_lt c; unfold dg; omega
theorem rchunk_quad (l t : List UInt8) (h : l ≠ []) : rchunk (quad l ++ t) = l.take 3 := by
  match l, h with
  | [a], _ =>
    have ha := UInt8.toNat_lt a
    show (rthree (dig (a.toNat / 4)) (dig (a.toNat % 4 * 16)) 61 61).take (rn 61 61) = [a]
    rw [show rn 61 61 = 1 by unfold rn; rw [bad_61]; rfl]
    have hv : rv (dig (a.toNat / 4)) (dig (a.toNat % 4 * 16)) 61 61 = ((a.toNat / 4 * 64 + a.toNat % 4 * 16) * 64 + 0) * 64 + 0 := by
      unfold rv; rw [dg_dig _ (by omega), dg_dig _ (by omega), dg_61]
    unfold rthree
    rw [hv, u8_eq a _ (by omega)]
    rfl
  | [a, b], _ =>
    have ha := UInt8.toNat_lt a
    have hb := UInt8.toNat_lt b
    show (rthree (dig (a.toNat / 4)) (dig (a.toNat % 4 * 16 + b.toNat / 16)) (dig (b.toNat % 16 * 4)) 61).take (rn (dig (b.toNat % 16 * 4)) 61) = [a, b]
    rw [show rn (dig (b.toNat % 16 * 4)) 61 = 2 by unfold rn; rw [bad_61, bad_dig _ (by omega)]; rfl]
    have hv : rv (dig (a.toNat / 4)) (dig (a.toNat % 4 * 16 + b.toNat / 16)) (dig (b.toNat % 16 * 4)) 61 = ((a.toNat / 4 * 64 + (a.toNat % 4 * 16 + b.toNat / 16)) * 64 + b.toNat % 16 * 4) * 64 + 0 := by
      unfold rv; rw [dg_dig _ (by omega), dg_dig _ (by omega), dg_dig _ (by omega), dg_61]
    unfold rthree
    rw [hv, u8_eq a _ (by omega), u8_eq b _ (by omega)]
    rfl
  | a :: b :: c :: r, _ =>
    have ha := UInt8.toNat_lt a
    have hb := UInt8.toNat_lt b
    have hc := UInt8.toNat_lt c
    show (rthree (dig (a.toNat / 4)) (dig (a.toNat % 4 * 16 + b.toNat / 16)) (dig (b.toNat % 16 * 4 + c.toNat / 64)) (dig (c.toNat % 64))).take (rn (dig (b.toNat % 16 * 4 + c.toNat / 64)) (dig (c.toNat % 64))) = [a, b, c]
    rw [show rn (dig (b.toNat % 16 * 4 + c.toNat / 64)) (dig (c.toNat % 64)) = 3 by unfold rn; rw [bad_dig _ (by omega), bad_dig _ (by omega)]; rfl]
    have hv : rv (dig (a.toNat / 4)) (dig (a.toNat % 4 * 16 + b.toNat / 16)) (dig (b.toNat % 16 * 4 + c.toNat / 64)) (dig (c.toNat % 64)) = ((a.toNat / 4 * 64 + (a.toNat % 4 * 16 + b.toNat / 16)) * 64 + (b.toNat % 16 * 4 + c.toNat / 64)) * 64 + c.toNat % 64 := by
      unfold rv; rw [dg_dig _ (by omega), dg_dig _ (by omega), dg_dig _ (by omega), dg_dig _ (by omega)]
    unfold rthree
    rw [hv, u8_eq a _ (by omega), u8_eq b _ (by omega), u8_eq c _ (by omega)]
    rfl
theorem rdec_b64 : ∀ (n : Nat) (l : List UInt8), l.length ≤ n → rdec (b64 l) = l
  | n, [], _ => rfl
  | 0, a :: l, h => by simp at h
  | n + 1, a :: l, h => by
    have hq := quad_length (a :: l) (by simp)
    rw [b64_step _ (by simp), rdec_step _ (by rw [List.length_append]; omega), rchunk_quad _ _ (by simp)]
    rw [show (quad (a :: l) ++ b64 ((a :: l).drop 3)).drop 4 = b64 ((a :: l).drop 3) by rw [← hq, List.drop_left]]
    rw [rdec_b64 n ((a :: l).drop 3) (by rw [List.length_drop]; simp at h ⊢; omega), List.take_append_drop]
/-- The document's answer is the reader's. -/
theorem unb_ref (s : List UInt8) : unb s = if b64 (rdec s) = s then some (rdec s) else none := by
  split
  · rename_i h
    exact (unb_some s (rdec s)).2 h
  · rename_i h
    cases hu : unb s with
    | none => rfl
    | some b =>
      exfalso
      have hb := (unb_some s b).1 hu
      apply h
      rw [← hb, rdec_b64 b.length b (Nat.le_refl _)]
theorem rchunk_length (l : List UInt8) : (rchunk l).length ≤ 3 := by
  unfold rchunk
  split
  · rw [List.length_take]; simp [rthree]; omega
  · simp
end Go.Proofs.YtgdnekhndmijpaaDoor
