/- Chapter 4, plain: the document's way to read a value, held against the reader's. -/
import Derived.Test.YtegigcneimjimaaGreatDoorPlainDn
namespace Go.Proofs.YtegigcneimjimaaGreatDoor
open Go.Lib

/-- The document's loop over a value: it stops at a sign, whatever that be. -/
def refVal : Nat → List UInt8 → List UInt8 → Nat → Option (List UInt8 × List UInt8)
  | _, [], b, n => some (b.take n, [])
  | 0, _ :: _, _, _ => none
  | f + 1, c :: t, b, n =>
    if c = 92 then
      match rEsc t with
      | none => none
      | some (x, u) => refVal f u (b ++ [x]) (b.length + 1)
    else if c ∈ specL ∨ c = 0 then some (b.take n, c :: t)
    else refVal f t (b ++ [c]) (if c = 32 then n else b.length + 1)
/-- What is left begins with a sign that ends no value. -/
def stuck (u : List UInt8) : Prop := ∃ c t, u = c :: t ∧ c ≠ 43 ∧ c ≠ 44
theorem refVal_rVal : ∀ (f : Nat) (r b : List UInt8) (n : Nat), refVal f r b n = rVal f r b n ∨ (rVal f r b n = none ∧ ∃ v u, refVal f r b n = some (v, u) ∧ stuck u)
  | f, [], b, n => .inl (by cases f <;> rfl)
  | 0, c :: t, b, n => .inl rfl
  | f + 1, c :: t, b, n => by
    rw [refVal, rVal]
    by_cases h92 : c = 92
    · subst h92
      rw [if_pos rfl, if_neg (by decide), if_pos rfl]
      cases rEsc t with
      | none => exact .inl rfl
      | some p =>
        obtain ⟨x, u⟩ := p
        exact refVal_rVal f u _ _
    · rw [if_neg h92]
      by_cases hcp : c = 44 ∨ c = 43
      · rw [if_pos hcp]
        rw [if_pos (by rcases hcp with rfl | rfl <;> exact .inl (by decide))]
        exact .inl rfl
      · rw [if_neg hcp, if_neg h92]
        by_cases hs : c ∈ specL ∨ c = 0
        · rw [if_pos hs, if_pos (Or.comm.1 hs)]
          exact .inr ⟨rfl, _, _, rfl, c, t, rfl, fun e => hcp (.inr e), fun e => hcp (.inl e)⟩
        · rw [if_neg hs, if_neg (fun h => hs (Or.comm.1 h))]
          exact refVal_rVal f t _ _
theorem rVal_end : ∀ (f : Nat) (r b : List UInt8) (n : Nat) (v u : List UInt8), rVal f r b n = some (v, u) → u = [] ∨ ∃ t, u = 44 :: t ∨ u = 43 :: t
  | f, [], b, n, v, u, h => by
    cases f <;> (rw [rVal] at h; cases h; exact .inl rfl)
  | 0, c :: t, b, n, v, u, h => by cases h
  | f + 1, c :: t, b, n, v, u, h => by
    rw [rVal] at h
    split at h
    · rename_i hc
      cases h
      rcases hc with rfl | rfl
      · exact .inr ⟨t, .inl rfl⟩
      · exact .inr ⟨t, .inr rfl⟩
    · split at h
      · cases he : rEsc t with
        | none => rw [he] at h; cases h
        | some p =>
          obtain ⟨x, z⟩ := p
          rw [he] at h
          exact rVal_end f z _ _ v u h
      · split at h
        · cases h
        · exact rVal_end f t _ _ v u h
def refValue (r : List UInt8) : Option (List UInt8 × List UInt8) :=
  match r with
  | 35 :: t => match rHex t with
    | none => none
    | some (v, u) => some (v, blanksB u)
  | _ => refVal r.length r [] 0
theorem refValue_rValue (r : List UInt8) : refValue r = (match rValue r with | none => none | some (v, u) => some (v, blanksB u)) ∨ (rValue r = none ∧ ∃ v u, refValue r = some (v, u) ∧ stuck u) := by
  by_cases hr : ∃ t, r = 35 :: t
  · obtain ⟨t, rfl⟩ := hr
    exact .inl rfl
  · have e1 : rValue r = rVal r.length r [] 0 := by
      unfold rValue
      split
      · exact absurd ⟨_, rfl⟩ hr
      · rfl
    have e2 : refValue r = refVal r.length r [] 0 := by
      unfold refValue
      split
      · exact absurd ⟨_, rfl⟩ hr
      · rfl
    rw [e1, e2]
    rcases refVal_rVal r.length r [] 0 with h | h
    · left
      rw [h]
      cases hq : rVal r.length r [] 0 with
      | none => rfl
      | some p =>
        obtain ⟨v, u⟩ := p
        have he := rVal_end _ _ _ _ _ _ hq
        have hb : blanksB u = u := by
          rcases he with rfl | ⟨t, rfl | rfl⟩
          · rfl
          · rfl
          · rfl
        simp only [hb]
    · exact .inr h
def refPair (r : List UInt8) : Option (Av × List UInt8) :=
  if isTyB ((blanksB r).takeWhile inTyB) then
    match blanksB ((blanksB r).dropWhile inTyB) with
    | 61 :: r3 =>
      match refValue (blanksB r3) with
      | some (v, u) => some (((blanksB r).takeWhile inTyB, v), u)
      | none => none
    | _ => none
  else none
theorem refPair_rPair (r : List UInt8) : refPair r = rPair r ∨ (rPair r = none ∧ ∃ a u, refPair r = some (a, u) ∧ stuck u) := by
  unfold refPair rPair
  simp only
  cases isTyB ((blanksB r).takeWhile inTyB) with
  | false => exact .inl rfl
  | true =>
    simp only [if_true]
    generalize blanksB ((blanksB r).dropWhile inTyB) = z
    by_cases hz : ∃ t, z = 61 :: t
    · obtain ⟨r3, rfl⟩ := hz
      simp only
      rcases refValue_rValue (blanksB r3) with h | ⟨h1, v, u, h2, h3⟩
      · left
        rw [h]
        cases rValue (blanksB r3) with
        | none => rfl
        | some p => obtain ⟨v, u⟩ := p; rfl
      · right
        rw [h1, h2]
        exact ⟨rfl, _, _, rfl, h3⟩
    · left
      split
      · exact absurd ⟨_, rfl⟩ hz
      · split
        · exact absurd ⟨_, rfl⟩ hz
        · rfl
end Go.Proofs.YtegigcneimjimaaGreatDoor
