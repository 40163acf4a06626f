/- Chapter 4, plain: numbers with points between, gone through from the left as the document does it. -/
import Derived.Test.YtegigcneimjimaaGreatDoorPlainDn
import Derived.Lib.SplitLaws
namespace Go.Proofs.YtegigcneimjimaaGreatDoor
open Go.Lib

theorem split_nil : split [] [46] = [[]] := by decide +kernel
theorem split_dot (t : List UInt8) : split (46 :: t) [46] = [] :: split t [46] := by
  unfold split
  rw [count_cons_eq, Nat.add_comm 1, splitK]
  have h : index (46 :: t) [46] = 0 := by unfold index; simp [List.isPrefixOf]
  rw [h, if_neg (by decide)]
  simp
theorem split_other (b : UInt8) (t : List UInt8) (hb : b ≠ 46) : ∃ f r, split t [46] = f :: r ∧ split (b :: t) [46] = (b :: f) :: r := by
  unfold split
  rw [count_cons_ne b 46 t hb]
  have hi : index (b :: t) [46] = if index t [46] == -1 then -1 else index t [46] + 1 := by
    rw [index]
    rw [if_neg (by simpa [List.isPrefixOf] using (fun h => hb h.symm))]
  have hg := index_ge t [46]
  cases hc : count t [46] with
  | zero => exact ⟨t, [], rfl, rfl⟩
  | succ k =>
    rw [splitK, splitK, hi]
    by_cases h : index t [46] = -1
    · rw [h]
      exact ⟨t, [], rfl, rfl⟩
    · have h2 : (index t [46] == -1) = false := by simpa using h
      obtain ⟨i, hii⟩ : ∃ i : Nat, index t [46] = i := ⟨(index t [46]).toNat, by omega⟩
      rw [h2, hii]
      have h3 : (((i : Int) + 1) == -1) = false := by rw [beq_eq_false_iff_ne]; omega
      simp only [Bool.false_eq_true, if_false, h3]
      refine ⟨_, _, rfl, ?_⟩
      have e : ((i : Int) + 1).toNat = i + 1 := by omega
      rw [e]
      simp
def numGo : List UInt8 → List UInt8 → Nat → Bool
  | [], cur, p => numB cur && decide (0 < p)
  | c :: t, cur, p => if digB c then numGo t (cur ++ [c]) p else if numB cur && c == 46 then numGo t [] (p + 1) else false
theorem numGo_split : ∀ (s cur : List UInt8) (p : Nat), ∃ f r, split s [46] = f :: r ∧ numGo s cur p = (((cur ++ f) :: r).all numB && decide (0 < p + r.length))
  | [], cur, p => ⟨[], [], split_nil, by simp [numGo]⟩
  | c :: t, cur, p => by
    by_cases hc : c = 46
    · subst hc
      obtain ⟨f, r, h1, h2⟩ := numGo_split t [] (p + 1)
      refine ⟨[], split t [46], split_dot t, ?_⟩
      rw [numGo, if_neg (by decide), h2, h1]
      have e : decide (0 < p + 1 + r.length) = decide (0 < p + (f :: r).length) := decide_eq_decide.2 (by simp only [List.length_cons]; omega)
      rw [e]
      cases hn : numB cur <;> simp [hn, Bool.and_assoc]
    · obtain ⟨f, r, h1, h2⟩ := split_other c t hc
      by_cases hd : digB c = true
      · obtain ⟨f', r', h3, h4⟩ := numGo_split t (cur ++ [c]) p
        rw [h1] at h3
        cases h3
        refine ⟨c :: f, r, h2, ?_⟩
        rw [numGo, if_pos hd, h4]
        simp
      · refine ⟨c :: f, r, h2, ?_⟩
        rw [numGo, if_neg hd, if_neg (by simp [hc])]
        have hz : numB (cur ++ c :: f) = false := by
          unfold numB
          have : (cur ++ c :: f).all digB = false := by simp [hd]
          rw [this, Bool.and_false]
        simp [hz]
theorem oid_numGo (s : List UInt8) : oidB s = numGo s [] 0 := by
  obtain ⟨f, r, h1, h2⟩ := numGo_split s [] 0
  rw [h2]
  unfold oidB
  rw [h1]
  simp
end Go.Proofs.YtegigcneimjimaaGreatDoor
