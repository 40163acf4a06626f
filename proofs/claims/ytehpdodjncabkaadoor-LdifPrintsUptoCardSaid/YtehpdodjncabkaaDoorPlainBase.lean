/- Plain laws of chapter 18: base 64. No program in sight. -/
import Derived.Lib.TrimByte
import Derived.Lib.IndexLaws
namespace Go.Proofs.YtehpdodjncabkaaDoor
open Go.Lib

def tab64 : List UInt8 := [65, 66, 67, 68, 69, 70, 71, 72, 73, 74, 75, 76, 77, 78, 79, 80, 81, 82, 83, 84, 85, 86, 87, 88, 89, 90, 97, 98, 99, 100, 101, 102, 103, 104, 105, 106, 107, 108, 109, 110, 111, 112, 113, 114, 115, 116, 117, 118, 119, 120, 121, 122, 48, 49, 50, 51, 52, 53, 54, 55, 56, 57, 43, 47]
def dig (n : Nat) : UInt8 := tab64.getD n 0
/-- What stands for one to three bytes. -/
def quad : List UInt8 → List UInt8
  | [a] => [dig (a.toNat / 4), dig (a.toNat % 4 * 16), 61, 61]
  | [a, b] => [dig (a.toNat / 4), dig (a.toNat % 4 * 16 + b.toNat / 16), dig (b.toNat % 16 * 4), 61]
  | a :: b :: c :: _ => [dig (a.toNat / 4), dig (a.toNat % 4 * 16 + b.toNat / 16), dig (b.toNat % 16 * 4 + c.toNat / 64), dig (c.toNat % 64)]
  | [] => []
def b64g : Nat → List UInt8 → List UInt8
  | 0, _ => []
  | n + 1, l => if l = [] then [] else quad l ++ b64g n (l.drop 3)
def b64 (l : List UInt8) : List UInt8 := b64g l.length l

theorem b64g_fuel : ∀ (n m : Nat) (l : List UInt8), l.length ≤ n → l.length ≤ m → b64g n l = b64g m l
  | 0, 0, _, _, _ => rfl
  | 0, m + 1, l, h, _ => by obtain rfl : l = [] := List.eq_nil_of_length_eq_zero (by omega); rfl
  | n + 1, 0, l, _, h => by obtain rfl : l = [] := List.eq_nil_of_length_eq_zero (by omega); rfl
  | n + 1, m + 1, l, h1, h2 => by
    by_cases h : l = []
    · subst h; rfl
    · have h0 : 0 < l.length := by cases l <;> simp_all
      rw [b64g, b64g, if_neg h, if_neg h, b64g_fuel n m (l.drop 3) (by rw [List.length_drop]; omega) (by rw [List.length_drop]; omega)]
theorem b64_nil : b64 [] = [] := rfl
theorem b64_step (l : List UInt8) (h : l ≠ []) : b64 l = quad l ++ b64 (l.drop 3) := by
  have h0 : 0 < l.length := by cases l <;> simp_all
  obtain ⟨n, hn⟩ : ∃ n, l.length = n + 1 := ⟨l.length - 1, by omega⟩
  unfold b64
  rw [hn, b64g, if_neg h]
  rw [b64g_fuel n (l.drop 3).length (l.drop 3) (by rw [List.length_drop]; omega) (Nat.le_refl _)]
theorem quad_length (l : List UInt8) (h : l ≠ []) : (quad l).length = 4 := by
  match l, h with
  | [a], _ => rfl
  | [a, b], _ => rfl
  | a :: b :: c :: t, _ => rfl
theorem b64_length : ∀ (n : Nat) (l : List UInt8), l.length ≤ n → (b64 l).length = (l.length + 2) / 3 * 4
  | n, [], _ => rfl
  | 0, a :: l, h => by simp at h
  | n + 1, a :: l, h => by
    rw [b64_step _ (by simp), List.length_append, quad_length _ (by simp), b64_length n ((a :: l).drop 3) (by rw [List.length_drop]; simp at h ⊢; omega), List.length_drop]
    simp only [List.length_cons]
    omega

theorem dig_ne (n : Nat) (h : n < 64) : dig n ≠ 61 ∧ indexByte tab64 (dig n) = n := by
  have : ∀ i : Fin 64, dig i.val ≠ 61 ∧ indexByte tab64 (dig i.val) = i.val := by decide +kernel
  exact this ⟨n, h⟩
theorem tab_lt (c : UInt8) : indexByte tab64 c < 64 := by
  have : ∀ i : Fin 256, indexByte tab64 (UInt8.ofNat i.val) < 64 := by decide +kernel
  have h := this ⟨c.toNat, UInt8.toNat_lt c⟩
  simpa using h

/-- The reader: what is gathered, how many bits of it, what is told. -/
def dgo : List UInt8 → Nat → Nat → List UInt8 → Option (List UInt8)
  | [], _, _, out => some out
  | c :: t, x, n, out =>
    if indexByte tab64 c < 0 then none
    else if 8 ≤ n + 6 then dgo t ((x * 64 + (indexByte tab64 c).toNat) % 2 ^ (n - 2)) (n - 2) (out ++ [UInt8.ofNat ((x * 64 + (indexByte tab64 c).toNat) / 2 ^ (n - 2))])
    else dgo t (x * 64 + (indexByte tab64 c).toNat) (n + 6) out
def decB (s : List UInt8) : Option (List UInt8) := dgo (trimRightB s 61) 0 0 []
def unb (s : List UInt8) : Option (List UInt8) :=
  match decB s with
  | none => none
  | some out => if b64 out = s then some out else none

/-- The body of what is written, without its signs of nothing. -/
def body : List UInt8 → List UInt8
  | [a] => [dig (a.toNat / 4), dig (a.toNat % 4 * 16)]
  | [a, b] => [dig (a.toNat / 4), dig (a.toNat % 4 * 16 + b.toNat / 16), dig (b.toNat % 16 * 4)]
  | a :: b :: c :: _ => [dig (a.toNat / 4), dig (a.toNat % 4 * 16 + b.toNat / 16), dig (b.toNat % 16 * 4 + c.toNat / 64), dig (c.toNat % 64)]
  | [] => []

theorem step_dig (d : Nat) (h : d < 64) (t : List UInt8) (x n : Nat) (out : List UInt8) : dgo (dig d :: t) x n out =
    if 8 ≤ n + 6 then dgo t ((x * 64 + d) % 2 ^ (n - 2)) (n - 2) (out ++ [UInt8.ofNat ((x * 64 + d) / 2 ^ (n - 2))]) else dgo t (x * 64 + d) (n + 6) out := by
  rw [dgo, (dig_ne d h).2, if_neg (by omega), Int.toNat_natCast]
theorem u8_eq (b : UInt8) (n : Nat) (h : n = b.toNat) : UInt8.ofNat n = b := by subst h; simp
theorem dgo3 (a b c : UInt8) (t out : List UInt8) : dgo (dig (a.toNat / 4) :: dig (a.toNat % 4 * 16 + b.toNat / 16) :: dig (b.toNat % 16 * 4 + c.toNat / 64) :: dig (c.toNat % 64) :: t) 0 0 out = dgo t 0 0 (out ++ [a, b, c]) := by
  have ha := UInt8.toNat_lt a
  have hb := UInt8.toNat_lt b
  have hc := UInt8.toNat_lt c
  rw [step_dig _ (by omega), if_neg (by omega), step_dig _ (by omega), if_pos (by omega), step_dig _ (by omega), if_pos (by omega), step_dig _ (by omega), if_pos (by omega)]
  simp only [Nat.zero_add, Nat.zero_mul, Nat.reduceSub, Nat.reducePow]
  rw [u8_eq a _ (by omega), u8_eq b _ (by omega), u8_eq c _ (by omega)]
  rw [show (((a.toNat / 4 * 64 + (a.toNat % 4 * 16 + b.toNat / 16)) % 16 * 64 + (b.toNat % 16 * 4 + c.toNat / 64)) % 4 * 64 + c.toNat % 64) % 1 = 0 by omega]
  simp
theorem dgo2 (a b : UInt8) (out : List UInt8) : dgo [dig (a.toNat / 4), dig (a.toNat % 4 * 16 + b.toNat / 16), dig (b.toNat % 16 * 4)] 0 0 out = some (out ++ [a, b]) := by
  have ha := UInt8.toNat_lt a
  have hb := UInt8.toNat_lt b
  rw [step_dig _ (by omega), if_neg (by omega), step_dig _ (by omega), if_pos (by omega), step_dig _ (by omega), if_pos (by omega)]
  simp only [Nat.zero_add, Nat.zero_mul, Nat.reduceSub, Nat.reducePow, dgo]
  rw [u8_eq a _ (by omega), u8_eq b _ (by omega)]
  simp
theorem dgo1 (a : UInt8) (out : List UInt8) : dgo [dig (a.toNat / 4), dig (a.toNat % 4 * 16)] 0 0 out = some (out ++ [a]) := by
  have ha := UInt8.toNat_lt a
  rw [step_dig _ (by omega), if_neg (by omega), step_dig _ (by omega), if_pos (by omega)]
  simp only [Nat.zero_add, Nat.zero_mul, Nat.reduceSub, Nat.reducePow, dgo]
  rw [u8_eq a _ (by omega)]

/-- What is written is digits, and up to two signs of nothing. -/
theorem b64_form : ∀ (n : Nat) (l : List UInt8), l.length ≤ n → ∃ B p, b64 l = B ++ List.replicate p 61 ∧ (∀ c ∈ B, c ≠ 61) ∧ ∀ out, dgo B 0 0 out = some (out ++ l)
  | n, [], _ => ⟨[], 0, rfl, by simp, fun out => by simp [dgo]⟩
  | 0, a :: l, h => by simp at h
  | n + 1, [a], _ => by
    have ha := UInt8.toNat_lt a
    refine ⟨[dig (a.toNat / 4), dig (a.toNat % 4 * 16)], 2, rfl, ?_, fun out => dgo1 a out⟩
    intro c hc
    simp only [List.mem_cons, List.not_mem_nil, or_false] at hc
    rcases hc with rfl | rfl
    · exact (dig_ne _ (by omega)).1
    · exact (dig_ne _ (by omega)).1
  | n + 1, [a, b], _ => by
    have ha := UInt8.toNat_lt a
    have hb := UInt8.toNat_lt b
    refine ⟨[dig (a.toNat / 4), dig (a.toNat % 4 * 16 + b.toNat / 16), dig (b.toNat % 16 * 4)], 1, rfl, ?_, fun out => dgo2 a b out⟩
    intro c hc
    simp only [List.mem_cons, List.not_mem_nil, or_false] at hc
    rcases hc with rfl | rfl | rfl
    · exact (dig_ne _ (by omega)).1
    · exact (dig_ne _ (by omega)).1
    · exact (dig_ne _ (by omega)).1
  | n + 1, a :: b :: c :: l, h => by
    have ha := UInt8.toNat_lt a
    have hb := UInt8.toNat_lt b
    have hc := UInt8.toNat_lt c
    obtain ⟨B, p, h1, h2, h3⟩ := b64_form n l (by simp at h; omega)
    refine ⟨dig (a.toNat / 4) :: dig (a.toNat % 4 * 16 + b.toNat / 16) :: dig (b.toNat % 16 * 4 + c.toNat / 64) :: dig (c.toNat % 64) :: B, p, ?_, ?_, fun out => ?_⟩
    · rw [b64_step _ (by simp)]
      show quad (a :: b :: c :: l) ++ b64 l = _
      rw [h1]
      rfl
    · intro x hx
      simp only [List.mem_cons] at hx
      rcases hx with rfl | rfl | rfl | rfl | hx
      · exact (dig_ne _ (by omega)).1
      · exact (dig_ne _ (by omega)).1
      · exact (dig_ne _ (by omega)).1
      · exact (dig_ne _ (by omega)).1
      · exact h2 x hx
    · rw [dgo3, h3]
      simp
theorem trim_pads (B : List UInt8) (p : Nat) (h : ∀ c ∈ B, c ≠ 61) : trimRightB (B ++ List.replicate p 61) 61 = B := by
  unfold trimRightB
  rw [List.reverse_append, List.reverse_replicate]
  have : ∀ p, (List.replicate p (61 : UInt8) ++ B.reverse).dropWhile (· == 61) = B.reverse := by
    intro p
    induction p with
    | zero =>
      simp only [List.replicate_zero, List.nil_append]
      cases hB : B.reverse with
      | nil => rfl
      | cons x t =>
        rw [List.dropWhile_cons_of_neg]
        have : x ∈ B := List.mem_reverse.1 (by rw [hB]; simp)
        simpa using h x this
    | succ p ih => rw [List.replicate_succ, List.cons_append, List.dropWhile_cons_of_pos (by simp), ih]
  rw [this, List.reverse_reverse]
theorem decB_b64 (l : List UInt8) : decB (b64 l) = some l := by
  obtain ⟨B, p, h1, h2, h3⟩ := b64_form l.length l (Nat.le_refl _)
  unfold decB
  rw [h1, trim_pads B p h2, h3]
  rfl
theorem unb_b64 (l : List UInt8) : unb (b64 l) = some l := by
  unfold unb
  rw [decB_b64]
  simp
theorem unb_some (s b : List UInt8) : unb s = some b ↔ b64 b = s := by
  constructor
  · intro h
    unfold unb at h
    cases hd : decB s with
    | none => rw [hd] at h; cases h
    | some out =>
      rw [hd] at h
      simp only at h
      split at h
      · rename_i e; cases h; exact e
      · cases h
  · rintro rfl; exact unb_b64 b
end Go.Proofs.YtehpdodjncabkaaDoor
