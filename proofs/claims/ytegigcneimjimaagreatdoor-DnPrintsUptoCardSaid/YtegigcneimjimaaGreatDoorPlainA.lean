/- Plain definitions of chapters 1 and 3: what the functions compute, as functions on lists of bytes. No program in sight. -/
import Derived.Lib.TrimUEq
import Derived.Lib.ValidLaws
import Derived.Lib.Small
import Derived.Lib.TrimByte
import Derived.Lib.CutLaws
import Derived.Lib.IndexLaws
import Derived.Laws.Cover4
namespace Go.Proofs.YtegigcneimjimaaGreatDoor
open Go.Lib

def isBlankB (r : Int) : Bool := decide ((9 ≤ r ∧ r ≤ 13) ∨ r = 0x85 ∨ r = 0xA0 ∨ r = 0x1680 ∨ (0x2000 ≤ r ∧ r ≤ 0x200A) ∨ r = 0x2028 ∨ r = 0x2029 ∨ r = 0x202F ∨ r = 0x205F ∨ r = 0x3000)
def goesB (r : Int) : Bool := decide ((0 ≤ r ∧ r < 32) ∨ (127 ≤ r ∧ r ≤ 0x9F) ∨ r = 0xAD ∨ r = 0x34F ∨ r = 0x1806 ∨ (0x180B ≤ r ∧ r ≤ 0x180E) ∨ (0x200B ≤ r ∧ r ≤ 0x200F) ∨ (0x202A ≤ r ∧ r ≤ 0x202E) ∨ (0x2060 ≤ r ∧ r ≤ 0x206F) ∨ (0xFE00 ≤ r ∧ r ≤ 0xFE0F) ∨ r = 0xFEFF ∨ (0xFFF9 ≤ r ∧ r ≤ 0xFFFC))
def isRefusedB (r : Int) : Bool := decide (r < 0 ∨ (0xD800 ≤ r ∧ r ≤ 0xF8FF) ∨ (0xFFFD ≤ r ∧ r ≤ 0xFFFF) ∨ 0xF0000 ≤ r)

def mapR (r : Int) : Int := if isBlankB r then 32 else if goesB r then 0 else if isRefusedB r then 0 else r
def mapStays (r : Int) : Bool := isBlankB r || (!goesB r && !isRefusedB r)
def mapBad (r : Int) : Bool := !isBlankB r && (!goesB r && isRefusedB r)

def foldR (r : Int) : Int :=
  if (0x41 ≤ r ∧ r ≤ 0x5A) ∨ (0xC0 ≤ r ∧ r ≤ 0xDE ∧ r ≠ 0xD7) ∨ (0x391 ≤ r ∧ r ≤ 0x3A9 ∧ r ≠ 0x3A2) ∨ (0x410 ≤ r ∧ r ≤ 0x42F) then r + 32
  else if 0x400 ≤ r ∧ r ≤ 0x40F then r + 80
  else if r = 0x1E9E then 0xDF
  else if ((0x100 ≤ r ∧ r ≤ 0x137) ∨ (0x14A ≤ r ∧ r ≤ 0x177)) ∧ r % 2 = 0 then r + 1
  else r

def encR (r : Int) : List UInt8 := (Utf8.encode r).data.toList
def putR (r : Int) : List UInt8 := if Lib.validRune r then encR r else []
theorem encR_length (r : Int) : (encR r).length ≤ 4 := by have := encode_size_le r; exact this
theorem putR_length (r : Int) : (putR r).length ≤ 4 := by unfold putR; split; exact encR_length r; simp

/-- One character's step: what is left out, what is laid behind. -/
def mstep (fold : Bool) (b : List UInt8) (r : Int) : List UInt8 :=
  if mapStays r = false then b
  else if mapR r = 32 ∧ b.getLast? = some 32 then b
  else b ++ putR (if fold then foldR (mapR r) else mapR r)
def mrun (fold : Bool) : List UInt8 → List Nat → Option (List UInt8)
  | b, [] => some b
  | b, r :: rs => if mapBad r then none else mrun fold (mstep fold b r) rs
def runesD : Nat → List UInt8 → List Nat
  | 0, _ => []
  | n + 1, l => if l = [] then [] else (decodeL l).1 :: runesD n (l.drop (decodeL l).2)
def runes (l : List UInt8) : List Nat := runesD l.length l
def mappedL (l : List UInt8) (fold : Bool) : Option (List UInt8) := if validD l then mrun fold [] (runes l) else none
def strOk : Option (List UInt8) → Value
  | none => .tuple #[.string ⟨#[]⟩, .int .i64 10]
  | some b => .tuple #[.string ⟨b.toArray⟩, .int .i64 0]

theorem decode_pos (l : List UInt8) (h : l ≠ []) : 1 ≤ (decodeL l).2 ∧ (decodeL l).2 ≤ l.length := by
  have h0 : 0 < l.length := by cases l <;> simp_all
  rw [decodeL_N, decodeN]
  split
  · exact ⟨Nat.le_refl _, h0⟩
  · split
    · split
      · exact ⟨by show 1 ≤ 2; omega, by show 2 ≤ _; omega⟩
      · exact ⟨Nat.le_refl _, h0⟩
    · split
      · split
        · exact ⟨by show 1 ≤ 3; omega, by show 3 ≤ _; omega⟩
        · exact ⟨Nat.le_refl _, h0⟩
      · split
        · split
          · exact ⟨by show 1 ≤ 4; omega, by show 4 ≤ _; omega⟩
          · exact ⟨Nat.le_refl _, h0⟩
        · exact ⟨Nat.le_refl _, h0⟩
theorem runesD_fuel : ∀ (n m : Nat) (l : List UInt8), l.length ≤ n → l.length ≤ m → runesD n l = runesD m l
  | 0, 0, _, _, _ => rfl
  | 0, m + 1, l, h, _ => by obtain rfl : l = [] := List.eq_nil_of_length_eq_zero (by omega); rfl
  | n + 1, 0, l, _, h => by obtain rfl : l = [] := List.eq_nil_of_length_eq_zero (by omega); rfl
  | n + 1, m + 1, l, h1, h2 => by
    by_cases h : l = []
    · subst h; rfl
    · have hd := decode_pos l h
      rw [runesD, runesD, if_neg h, if_neg h]
      rw [runesD_fuel n m _ (by rw [List.length_drop]; omega) (by rw [List.length_drop]; omega)]
theorem runes_nil : runes [] = [] := rfl
theorem runes_step (l : List UInt8) (h : l ≠ []) : runes l = (decodeL l).1 :: runes (l.drop (decodeL l).2) := by
  obtain ⟨h1, h2⟩ := decode_pos l h
  have h0 : 0 < l.length := by cases l <;> simp_all
  unfold runes
  obtain ⟨n, hn⟩ : ∃ n, l.length = n + 1 := ⟨l.length - 1, by omega⟩
  rw [hn, runesD, if_neg h]
  rw [runesD_fuel n (l.drop (decodeL l).2).length _ (by rw [List.length_drop]; omega) (Nat.le_refl _)]
theorem mstep_length (fold : Bool) (b : List UInt8) (r : Int) : (mstep fold b r).length ≤ b.length + 4 := by
  unfold mstep
  split
  · omega
  · split
    · omega
    · rw [List.length_append]; have := putR_length (if fold then foldR (mapR r) else mapR r); omega

def prepL (l : List UInt8) (fold : Bool) : Option (List UInt8) :=
  match mappedL l fold with
  | none => none
  | some t => if trimB t 32 = [] ∧ l ≠ [] then some [32] else some (trimB t 32)

theorem mrun_length (fold : Bool) : ∀ (rs : List Nat) (b t : List UInt8), mrun fold b rs = some t → t.length ≤ b.length + 4 * rs.length
  | [], b, t, h => by simp only [mrun, Option.some.injEq] at h; subst h; simp
  | r :: rs, b, t, h => by
    rw [mrun] at h
    split at h
    · cases h
    · have := mrun_length fold rs _ t h
      have h2 := mstep_length fold b r
      simp only [List.length_cons]
      omega
theorem runesD_length : ∀ (n : Nat) (l : List UInt8), (runesD n l).length ≤ n
  | 0, _ => by simp [runesD]
  | n + 1, l => by
    rw [runesD]
    split
    · simp
    · have := runesD_length n (l.drop (decodeL l).2)
      simp only [List.length_cons]
      omega
theorem mappedL_length (l : List UInt8) (fold : Bool) (t : List UInt8) (h : mappedL l fold = some t) : t.length ≤ 4 * l.length := by
  unfold mappedL at h
  split at h
  · have := mrun_length fold _ _ _ h
    have h2 := runesD_length l.length l
    unfold runes at this
    simp only [List.length_nil] at this
    omega
  · cases h

theorem index_room (s p : List UInt8) : Lib.index s p = -1 ∨ ∃ i : Nat, Lib.index s p = i ∧ i + p.length ≤ s.length := by
  rcases Nat.lt_or_ge s.length p.length with h | h
  · by_cases hp : p = s
    · subst hp; omega
    · exact .inl (index_long (by omega) hp)
  · have h2 := indexB_cases ⟨s.toArray⟩ ⟨p.toArray⟩
    unfold indexB at h2
    simpa [Lib.size_mk] using h2

def findL : List UInt8 → List (List UInt8) → Bool
  | _, [] => true
  | rest, p :: ps => if Lib.index rest p < 0 then false else findL (rest.drop ((Lib.index rest p).toNat + p.length)) ps
def holdsL (s : List UInt8) (ls : List (List UInt8)) : Bool :=
  if ls.length < 2 then false
  else if hasPrefix s (ls.getD 0 []) = false then false
  else if hasSuffix (trimPrefix s (ls.getD 0 [])) (ls.getD (ls.length - 1) []) = false then false
  else findL (trimSuffix (trimPrefix s (ls.getD 0 [])) (ls.getD (ls.length - 1) [])) ((ls.drop 1).take (ls.length - 2))

theorem trimPrefix_le' (s p : List UInt8) : (trimPrefix s p).length ≤ s.length := by unfold trimPrefix; split <;> simp
theorem trimSuffix_le' (s p : List UInt8) : (trimSuffix s p).length ≤ s.length := by unfold trimSuffix; split <;> simp

end Go.Proofs.YtegigcneimjimaaGreatDoor
