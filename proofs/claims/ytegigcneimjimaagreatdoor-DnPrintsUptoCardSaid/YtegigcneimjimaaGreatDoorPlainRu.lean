/- Plain laws on UTF-8: the decoder by the table of well-formed sequences. -/
import Derived.Test.YtegigcneimjimaaGreatDoorPlainUtf
namespace Go.Proofs.YtegigcneimjimaaGreatDoor
open Go.Lib

/-- The character's number, gathered byte by byte. -/
def vv (c : Int) (d : Nat → Nat) : Nat → Int
  | 0 => c
  | 1 => c
  | k + 2 => vv c d (k + 1) * 64 + (d (k + 1) : Int) - 128
theorem vv2 (c : Int) (d : Nat → Nat) : vv c d 2 = c * 64 + (d 1 : Int) - 128 := rfl
theorem vv3 (c : Int) (d : Nat → Nat) : vv c d 3 = (c * 64 + (d 1 : Int) - 128) * 64 + (d 2 : Int) - 128 := rfl
theorem vv4 (c : Int) (d : Nat → Nat) : vv c d 4 = ((c * 64 + (d 1 : Int) - 128) * 64 + (d 2 : Int) - 128) * 64 + (d 3 : Int) - 128 := rfl
theorem vv_bound (c : Int) (d : Nat → Nat) (h0 : 0 ≤ c) (h1 : c ≤ 31) : ∀ j, j ≤ 4 → (∀ t, 1 ≤ t → t < j → 128 ≤ d t ∧ d t ≤ 191) → 0 ≤ vv c d j ∧ vv c d j ≤ 16777215
  | 0, _, _ => by unfold vv; omega
  | 1, _, _ => by unfold vv; omega
  | 2, _, h => by have := h 1 (by omega) (by omega); rw [vv2]; omega
  | 3, _, h => by have := h 1 (by omega) (by omega); have := h 2 (by omega) (by omega); rw [vv3]; omega
  | 4, _, h => by have := h 1 (by omega) (by omega); have := h 2 (by omega) (by omega); have := h 3 (by omega) (by omega); rw [vv4]; omega
  | k + 5, h, _ => by omega
theorem vv_succ (c : Int) (d : Nat → Nat) : ∀ j, 1 ≤ j → vv c d (j + 1) = vv c d j * 64 + (d j : Int) - 128
  | 0, h => by omega
  | j + 1, _ => rfl
def VRelU (c : Int) (d : Nat → Nat) (N : Nat) (v k : Value) : Prop :=
  ∃ j : Nat, k = .int .i64 j ∧ 1 ≤ j ∧ j ≤ N ∧ v = .int .i64 (vv c d j) ∧ ∀ t, 1 ≤ t → t < j → 128 ≤ d t ∧ d t ≤ 191
def badR : Value := .tuple #[.int .i32 65533, .int .i64 1]
def decV (l : List UInt8) : Value := .tuple #[.int .i32 ((decodeL l).1 : Nat), .int .i64 ((decodeL l).2 : Nat)]

/-- What a lead byte's class says of the answer. -/
structure RuneSpec (N : Nat) (c low : Int) (n : Nat) (d : Nat → Nat) (R : Value) : Prop where
  short : n < N → R = badR
  byte : ∀ j, 1 ≤ j → j < N → (d j < 128 ∨ 191 < d j) → R = badR
  no : N ≤ n → (∀ t, 1 ≤ t → t < N → 128 ≤ d t ∧ d t ≤ 191) → (vv c d N < low ∨ 1114111 < vv c d N ∨ (55296 ≤ vv c d N ∧ vv c d N ≤ 57343)) → R = badR
  yes : N ≤ n → (∀ t, 1 ≤ t → t < N → 128 ≤ d t ∧ d t ≤ 191) → ¬ (vv c d N < low ∨ 1114111 < vv c d N ∨ (55296 ≤ vv c d N ∧ vv c d N ≤ 57343)) → R = .tuple #[.int .i32 (vv c d N), .int .i64 N]
structure DecSpec (n b0 : Nat) (d : Nat → Nat) (R : Value) : Prop where
  asc : b0 < 128 → R = .tuple #[.int .i32 b0, .int .i64 1]
  two : 194 ≤ b0 → b0 ≤ 223 → RuneSpec 2 (b0 - 192) 128 n d R
  three : 224 ≤ b0 → b0 ≤ 239 → RuneSpec 3 (b0 - 224) 2048 n d R
  four : 240 ≤ b0 → b0 ≤ 244 → RuneSpec 4 (b0 - 240) 65536 n d R
  none_ : (128 ≤ b0 ∧ b0 ≤ 193) ∨ 245 ≤ b0 → R = badR

theorem tup_eq {a b : Nat × Nat} {x y : Int} (h : a = b) (h1 : (b.1 : Int) = x) (h2 : (b.2 : Int) = y) : (.tuple #[.int .i32 (a.1 : Nat), .int .i64 (a.2 : Nat)] : Value) = .tuple #[.int .i32 x, .int .i64 y] := by
  subst h; rw [h1, h2]

theorem dec_spec (n b0 : Nat) (d : Nat → Nat) (h0 : b0 < 256) : DecSpec n b0 d (.tuple #[.int .i32 ((decodeN n b0 (d 1) (d 2) (d 3)).1 : Nat), .int .i64 ((decodeN n b0 (d 1) (d 2) (d 3)).2 : Nat)]) := by
  refine ⟨fun h => tup_eq (decodeN_ascii _ _ _ _ _ h) rfl rfl, fun h1 h2 => ?_, fun h1 h2 => ?_, fun h1 h2 => ?_, fun h => tup_eq (decodeN_bad _ _ _ _ _ (by omega)) rfl rfl⟩
  · have e : ∀ p : Nat × Nat, (¬ (1 < n ∧ d 1 / 64 = 2) → decodeN n b0 (d 1) (d 2) (d 3) = (65533, 1)) ∧ ((1 < n ∧ d 1 / 64 = 2) → decodeN n b0 (d 1) (d 2) (d 3) = (b0 % 32 * 64 + d 1 % 64, 2)) := by
      intro _
      unfold decodeN
      refine ⟨fun h => ?_, fun h => ?_⟩
      · rw [if_neg (by omega), if_neg (by omega), if_neg (by omega), if_neg (by omega)]
      · rw [if_neg (by omega), if_pos (by omega), if_pos (by omega)]
    obtain ⟨e1, e2⟩ := e (0, 0)
    refine ⟨fun h => tup_eq (e1 (by omega)) rfl rfl, fun j hj1 hj2 h => ?_, fun _ ht h => ?_, fun hn ht _ => ?_⟩
    · obtain rfl : j = 1 := by omega
      exact tup_eq (e1 (by omega)) rfl rfl
    · exfalso
      have := ht 1 (by omega) (by omega)
      rw [vv2] at h
      omega
    · have := ht 1 (by omega) (by omega)
      refine tup_eq (e2 (by omega)) ?_ rfl
      rw [vv2]
      omega
  · have e : (¬ ((1 < n ∧ d 1 / 64 = 2) ∧ (2 < n ∧ d 2 / 64 = 2)) → decodeN n b0 (d 1) (d 2) (d 3) = (65533, 1)) ∧ (((1 < n ∧ d 1 / 64 = 2) ∧ (2 < n ∧ d 2 / 64 = 2)) → decodeN n b0 (d 1) (d 2) (d 3) = if b0 % 16 * 4096 + d 1 % 64 * 64 + d 2 % 64 ≥ 2048 ∧ (b0 % 16 * 4096 + d 1 % 64 * 64 + d 2 % 64 < 55296 ∨ (57344 ≤ b0 % 16 * 4096 + d 1 % 64 * 64 + d 2 % 64 ∧ b0 % 16 * 4096 + d 1 % 64 * 64 + d 2 % 64 ≤ 1114111)) then (b0 % 16 * 4096 + d 1 % 64 * 64 + d 2 % 64, 3) else (65533, 1)) := by
      unfold decodeN
      refine ⟨fun h => ?_, fun h => ?_⟩
      · rw [if_neg (by omega), if_neg (by omega), if_neg (by omega), if_neg (by omega)]
      · rw [if_neg (by omega), if_neg (by omega), if_pos (by omega)]
    obtain ⟨e1, e2⟩ := e
    refine ⟨fun h => tup_eq (e1 (by omega)) rfl rfl, fun j hj1 hj2 h => ?_, fun hn ht h => ?_, fun hn ht h => ?_⟩
    · have : j = 1 ∨ j = 2 := by omega
      rcases this with rfl | rfl
      · exact tup_eq (e1 (by omega)) rfl rfl
      · exact tup_eq (e1 (by omega)) rfl rfl
    · have t1 := ht 1 (by omega) (by omega)
      have t2 := ht 2 (by omega) (by omega)
      rw [vv3] at h
      refine tup_eq ((e2 (by omega)).trans (if_neg (by omega))) rfl rfl
    · have t1 := ht 1 (by omega) (by omega)
      have t2 := ht 2 (by omega) (by omega)
      rw [vv3] at h
      refine tup_eq ((e2 (by omega)).trans (if_pos (by omega))) ?_ rfl
      rw [vv3]
      omega
  · have e : (¬ ((1 < n ∧ d 1 / 64 = 2) ∧ (2 < n ∧ d 2 / 64 = 2) ∧ (3 < n ∧ d 3 / 64 = 2)) → decodeN n b0 (d 1) (d 2) (d 3) = (65533, 1)) ∧ (((1 < n ∧ d 1 / 64 = 2) ∧ (2 < n ∧ d 2 / 64 = 2) ∧ (3 < n ∧ d 3 / 64 = 2)) → decodeN n b0 (d 1) (d 2) (d 3) = if b0 % 8 * 262144 + d 1 % 64 * 4096 + d 2 % 64 * 64 + d 3 % 64 ≥ 65536 ∧ (b0 % 8 * 262144 + d 1 % 64 * 4096 + d 2 % 64 * 64 + d 3 % 64 < 55296 ∨ (57344 ≤ b0 % 8 * 262144 + d 1 % 64 * 4096 + d 2 % 64 * 64 + d 3 % 64 ∧ b0 % 8 * 262144 + d 1 % 64 * 4096 + d 2 % 64 * 64 + d 3 % 64 ≤ 1114111)) then (b0 % 8 * 262144 + d 1 % 64 * 4096 + d 2 % 64 * 64 + d 3 % 64, 4) else (65533, 1)) := by
      unfold decodeN
      refine ⟨fun h => ?_, fun h => ?_⟩
      · rw [if_neg (by omega), if_neg (by omega), if_neg (by omega), if_neg (by omega)]
      · rw [if_neg (by omega), if_neg (by omega), if_neg (by omega), if_pos (by omega)]
    obtain ⟨e1, e2⟩ := e
    refine ⟨fun h => tup_eq (e1 (by omega)) rfl rfl, fun j hj1 hj2 h => ?_, fun hn ht h => ?_, fun hn ht h => ?_⟩
    · have : j = 1 ∨ j = 2 ∨ j = 3 := by omega
      rcases this with rfl | rfl | rfl
      · exact tup_eq (e1 (by omega)) rfl rfl
      · exact tup_eq (e1 (by omega)) rfl rfl
      · exact tup_eq (e1 (by omega)) rfl rfl
    · have t1 := ht 1 (by omega) (by omega)
      have t2 := ht 2 (by omega) (by omega)
      have t3 := ht 3 (by omega) (by omega)
      rw [vv4] at h
      refine tup_eq ((e2 (by omega)).trans (if_neg (by omega))) rfl rfl
    · have t1 := ht 1 (by omega) (by omega)
      have t2 := ht 2 (by omega) (by omega)
      have t3 := ht 3 (by omega) (by omega)
      rw [vv4] at h
      refine tup_eq ((e2 (by omega)).trans (if_pos (by omega))) ?_ rfl
      rw [vv4]
      omega

theorem decV_spec (l : List UInt8) (i : Nat) (d : Nat → Nat) (hd : ∀ k, (l.getD (i + k) 0).toNat = d k) : DecSpec (l.length - i) (d 0) d (decV (l.drop i)) := by
  have h0 : d 0 < 256 := by rw [← hd]; exact UInt8.toNat_lt _
  have e : decodeL (l.drop i) = decodeN (l.length - i) (d 0) (d 1) (d 2) (d 3) := by
    rw [decodeL_N, List.length_drop]
    simp only [getD_dropU]
    rw [hd, hd, hd, hd]
  unfold decV
  rw [e]
  exact dec_spec _ _ d h0
end Go.Proofs.YtegigcneimjimaaGreatDoor
