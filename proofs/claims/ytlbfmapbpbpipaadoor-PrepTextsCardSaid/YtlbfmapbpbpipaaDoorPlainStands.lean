/- Plain laws of chapter 3: pieces cut out of a text stand in it. -/
import Derived.Test.YtlbfmapbpbpipaaDoorPlainA
namespace Go.Proofs.YtlbfmapbpbpipaaDoor
open Go.Lib

/-- The pieces stand in the text, one behind the other. -/
def Emb : List UInt8 → List (List UInt8) → Prop
  | _, [] => True
  | r, p :: ps => ∃ x y, r = x ++ p ++ y ∧ Emb y ps
theorem Emb.more : ∀ {ps : List (List UInt8)} {y : List UInt8} (z : List UInt8), Emb y ps → Emb (z ++ y) ps
  | [], _, _, _ => trivial
  | p :: ps, y, z, h => by
    obtain ⟨a, b, rfl, hb⟩ := h
    exact ⟨z ++ a, b, by simp, hb⟩
theorem Emb.behind : ∀ {ps : List (List UInt8)} {y : List UInt8} (z : List UInt8), Emb y ps → Emb (y ++ z) ps
  | [], _, _, _ => trivial
  | p :: ps, y, z, h => by
    obtain ⟨a, b, rfl, hb⟩ := h
    exact ⟨a, b ++ z, by simp, hb.behind z⟩
theorem Emb.snoc : ∀ {ps : List (List UInt8)} {r : List UInt8} (x p : List UInt8), Emb r ps → Emb (r ++ x ++ p) (ps ++ [p])
  | [], r, x, p, _ => ⟨r ++ x, [], by simp, trivial⟩
  | q :: ps, r, x, p, h => by
    obtain ⟨a, b, rfl, hb⟩ := h
    exact ⟨a, b ++ x ++ p, by simp, hb.snoc x p⟩
theorem least (f : Nat → Bool) : ∀ n, (∃ j, j ≤ n ∧ f j = true) → ∃ j, j ≤ n ∧ f j = true ∧ ∀ i, i < j → f i = false
  | 0, ⟨j, hj, h⟩ => ⟨j, hj, h, fun i hi => by omega⟩
  | n + 1, ⟨j, hj, h⟩ => by
    by_cases hx : ∃ j, j ≤ n ∧ f j = true
    · obtain ⟨k, hk, h1, h2⟩ := least f n hx
      exact ⟨k, by omega, h1, h2⟩
    · refine ⟨j, hj, h, fun i hi => ?_⟩
      cases hf : f i with
      | false => rfl
      | true => exact absurd ⟨i, by omega, hf⟩ hx
theorem find_emb : ∀ (ps : List (List UInt8)) (r : List UInt8), Emb r ps → findL r ps = true
  | [], _, _ => rfl
  | p :: ps, r, h => by
    obtain ⟨x, y, rfl, hy⟩ := h
    have ho : occAt (x ++ p ++ y) p x.length = true := by
      unfold occAt
      rw [List.append_assoc, List.drop_left' rfl, List.isPrefixOf_iff_prefix]
      exact ⟨y, rfl⟩
    obtain ⟨j, hj, h1, h2⟩ := least (occAt (x ++ p ++ y) p) x.length ⟨x.length, Nat.le_refl _, ho⟩
    have hi := index_first (by simp; omega) h1 h2
    rw [findL, hi, if_neg (by omega), Int.toNat_natCast]
    apply find_emb
    have e : (x ++ p ++ y).drop (j + p.length) = (x ++ p).drop (j + p.length) ++ y := by
      rw [List.drop_append_of_le_length (by simp; omega)]
    rw [e]
    exact hy.more _

theorem holds_stand (s : List UInt8) (at_ : Nat) (mids : List (List UInt8)) (h : Emb (s.take at_) mids) (ha : at_ ≤ s.length) : holdsL s ([] :: mids ++ [s.drop at_]) = true ∧ holdsL s ([] :: mids ++ [[]]) = true := by
  have hp : hasPrefix s [] = true := by simp [hasPrefix]
  have htp : trimPrefix s [] = s := by simp [trimPrefix, hp]
  have hlen : ∀ z : List UInt8, (([] : List UInt8) :: mids ++ [z]).length = mids.length + 2 := by intro z; simp
  have hg0 : ∀ z : List UInt8, (([] : List UInt8) :: mids ++ [z]).getD 0 [] = [] := by intro z; rfl
  have hgz : ∀ z : List UInt8, (([] : List UInt8) :: mids ++ [z]).getD (mids.length + 2 - 1) [] = z := by
    intro z
    rw [List.getD_eq_getElem?_getD, List.getElem?_append_right (by simp)]
    simp
  have hmid : ∀ z : List UInt8, ((([] : List UInt8) :: mids ++ [z]).drop 1).take (mids.length + 2 - 2) = mids := by
    intro z
    simp
  refine ⟨?_, ?_⟩
  · unfold holdsL
    rw [hlen, if_neg (by omega), hg0, hgz, hmid, hp, if_neg (by simp), htp]
    have hs : hasSuffix s (s.drop at_) = true := by
      unfold hasSuffix
      rw [List.isSuffixOf_iff_suffix]
      exact List.drop_suffix _ _
    rw [hs, if_neg (by simp)]
    apply find_emb
    unfold trimSuffix
    rw [if_pos hs, List.length_drop, show s.length - (s.length - at_) = at_ by omega]
    exact h
  · unfold holdsL
    rw [hlen, if_neg (by omega), hg0, hgz, hmid, hp, if_neg (by simp), htp]
    have hs : hasSuffix s [] = true := by
      unfold hasSuffix
      rw [List.isSuffixOf_iff_suffix]
      exact List.nil_suffix
    rw [hs, if_neg (by simp)]
    apply find_emb
    unfold trimSuffix
    rw [if_pos hs]
    simp only [List.length_nil, Nat.sub_zero, List.take_length]
    have := h.behind (s.drop at_)
    rwa [List.take_append_drop] at this
theorem holds_self (s : List UInt8) : holdsL s [s, s] = s.isEmpty := by
  have hp : hasPrefix s s = true := by simp [hasPrefix]
  unfold holdsL
  simp only [List.length_cons, List.length_nil, List.getD_cons_zero, List.getD_cons_succ]
  rw [if_neg (by omega), hp, if_neg (by simp)]
  have ht : trimPrefix s s = [] := by simp [trimPrefix, hp]
  rw [ht]
  cases s with
  | nil => rfl
  | cons b s =>
    have : hasSuffix [] (b :: s) = false := by
      unfold hasSuffix
      rw [← Bool.not_eq_true, List.isSuffixOf_iff_suffix]
      intro h
      have := h.length_le
      simp at this
    show (if hasSuffix [] (b :: s) = false then false else _) = _
    rw [if_pos this]
    rfl
theorem holds_x (s : List UInt8) : holdsL s [s ++ [120], []] = false := by
  have hp : hasPrefix s (s ++ [120]) = false := by
    unfold hasPrefix
    rw [← Bool.not_eq_true, List.isPrefixOf_iff_prefix]
    intro h
    have := h.length_le
    simp at this
    omega
  unfold holdsL
  simp only [List.length_cons, List.length_nil, List.getD_cons_zero]
  rw [if_neg (by omega), if_pos hp]
end Go.Proofs.YtlbfmapbpbpipaaDoor
