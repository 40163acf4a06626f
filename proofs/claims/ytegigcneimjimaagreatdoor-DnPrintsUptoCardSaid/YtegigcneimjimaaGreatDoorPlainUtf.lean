/- Plain laws on UTF-8: what is encoded is decoded; texts as lists of characters. No program in sight. -/
import Derived.Test.YtegigcneimjimaaGreatDoorPlainA
namespace Go.Proofs.YtegigcneimjimaaGreatDoor
open Go.Lib

theorem u8mod (n : Nat) : (UInt8.ofNat n).toNat = n % 256 := by simp

theorem encR_one (r : Int) (h : Lib.validRune r = true) (h1 : r < 128) : encR r = [UInt8.ofNat r.toNat] := by
  have hv : Utf8.valid r = true := by simp [Lib.validRune] at h; simp [Utf8.valid]; omega
  simp [Lib.validRune] at h
  unfold encR Utf8.encode
  simp only [hv, if_true]
  rw [if_pos (by omega)]
theorem encR_two (r : Int) (_h : Lib.validRune r = true) (h0 : 128 ≤ r) (h1 : r < 2048) : encR r = [UInt8.ofNat (192 + r.toNat / 64), UInt8.ofNat (128 + r.toNat % 64)] := by
  have hv : Utf8.valid r = true := by simp [Utf8.valid]; omega
  unfold encR Utf8.encode
  simp only [hv, if_true]
  rw [if_neg (by omega), if_pos (by omega)]
theorem encR_three (r : Int) (h : Lib.validRune r = true) (h0 : 2048 ≤ r) (h1 : r < 65536) : encR r = [UInt8.ofNat (224 + r.toNat / 4096), UInt8.ofNat (128 + r.toNat / 64 % 64), UInt8.ofNat (128 + r.toNat % 64)] := by
  have hv : Utf8.valid r = true := by simp [Lib.validRune] at h; simp [Utf8.valid]; omega
  unfold encR Utf8.encode
  simp only [hv, if_true]
  rw [if_neg (by omega), if_neg (by omega), if_pos (by omega)]
theorem encR_four (r : Int) (h : Lib.validRune r = true) (h0 : 65536 ≤ r) : encR r = [UInt8.ofNat (240 + r.toNat / 262144), UInt8.ofNat (128 + r.toNat / 4096 % 64), UInt8.ofNat (128 + r.toNat / 64 % 64), UInt8.ofNat (128 + r.toNat % 64)] := by
  have hv : Utf8.valid r = true := by simp [Lib.validRune] at h; simp [Utf8.valid]; omega
  unfold encR Utf8.encode
  simp only [hv, if_true]
  rw [if_neg (by omega), if_neg (by omega), if_neg (by omega)]

theorem validRune_bounds (r : Int) (h : Lib.validRune r = true) : (0 ≤ r ∧ r < 55296) ∨ (57343 < r ∧ r ≤ 1114111) := by
  simpa [Lib.validRune] using h

set_option maxHeartbeats 1000000 in
theorem decode_enc (r : Int) (t : List UInt8) (h : Lib.validRune r = true) : decodeL (encR r ++ t) = (r.toNat, (encR r).length) := by
  have hb := validRune_bounds r h
  obtain ⟨c, rfl⟩ : ∃ c : Nat, r = c := ⟨r.toNat, by omega⟩
  rw [decodeL_N]
  rcases Int.lt_or_le (c : Int) 128 with h1 | h1
  · rw [encR_one _ h h1]
    simp only [List.cons_append, List.nil_append, List.getD_cons_zero, u8mod, Int.toNat_natCast, List.length_singleton]
    rw [decodeN, if_pos (by omega)]
    exact Prod.ext (by show _ = c; omega) rfl
  rcases Int.lt_or_le (c : Int) 2048 with h2 | h2
  · rw [encR_two _ h h1 h2]
    simp only [List.cons_append, List.nil_append, List.getD_cons_zero, List.getD_cons_succ, u8mod, Int.toNat_natCast, List.length_cons, List.length_nil]
    rw [decodeN, if_neg (by omega), if_pos (by omega), if_pos (by omega)]
    exact Prod.ext (by show _ = c; omega) rfl
  rcases Int.lt_or_le (c : Int) 65536 with h3 | h3
  · rw [encR_three _ h h2 h3]
    simp only [List.cons_append, List.nil_append, List.getD_cons_zero, List.getD_cons_succ, u8mod, Int.toNat_natCast, List.length_cons, List.length_nil]
    rw [decodeN, if_neg (by omega), if_neg (by omega), if_pos (by omega), if_pos (by omega)]
    exact Prod.ext (by show _ = c; omega) rfl
  · rw [encR_four _ h h3]
    simp only [List.cons_append, List.nil_append, List.getD_cons_zero, List.getD_cons_succ, u8mod, Int.toNat_natCast, List.length_cons, List.length_nil]
    rw [decodeN, if_neg (by omega), if_neg (by omega), if_neg (by omega), if_pos (by omega), if_pos (by omega)]
    exact Prod.ext (by show _ = c; omega) rfl

theorem encR_ne (r : Int) : encR r ≠ [] := by
  unfold encR Utf8.encode
  dsimp only
  generalize (if Utf8.valid r = true then r.toNat else Utf8.runeError) = c
  by_cases h1 : c < 128
  · rw [if_pos h1]; simp
  · rw [if_neg h1]
    by_cases h2 : c < 2048
    · rw [if_pos h2]; simp
    · rw [if_neg h2]
      by_cases h3 : c < 65536
      · rw [if_pos h3]; simp
      · rw [if_neg h3]; simp

/-- A text out of characters. -/
def encAll (ks : List Int) : List UInt8 := ks.flatMap encR
theorem encAll_nil : encAll [] = [] := rfl
theorem encAll_cons (k : Int) (ks : List Int) : encAll (k :: ks) = encR k ++ encAll ks := by simp [encAll]
theorem encAll_append (a b : List Int) : encAll (a ++ b) = encAll a ++ encAll b := by simp [encAll]
theorem encAll_eq_nil (ks : List Int) : encAll ks = [] ↔ ks = [] := by
  cases ks with
  | nil => simp [encAll]
  | cons k ks => simp [encAll_cons, encR_ne]

def AllValid (ks : List Int) : Prop := ∀ k ∈ ks, Lib.validRune k = true

theorem runes_enc : ∀ (ks : List Int), AllValid ks → runes (encAll ks) = ks.map Int.toNat
  | [], _ => rfl
  | k :: ks, h => by
    rw [encAll_cons, runes_step _ (by simp [encR_ne]), decode_enc k _ (h k (by simp))]
    simp only [List.drop_left', List.map_cons]
    rw [runes_enc ks (fun x hx => h x (by simp [hx]))]
theorem valid_enc : ∀ (ks : List Int), AllValid ks → validD (encAll ks) = true
  | [], _ => rfl
  | k :: ks, h => by
    have hv := h k (by simp)
    rw [encAll_cons, validD_step _ (by simp [encR_ne]), decode_enc k _ hv]
    have hb := validRune_bounds k hv
    rw [if_neg, List.drop_left' rfl, valid_enc ks (fun x hx => h x (by simp [hx]))]
    rintro ⟨h1, h2⟩
    simp only at h1 h2
    have hk : k = 65533 := by omega
    subst hk
    revert h2
    decide
end Go.Proofs.YtegigcneimjimaaGreatDoor
