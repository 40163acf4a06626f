/- Plain: the marks of chancerybook. -/
import Derived.Test.YtegigcneimjimaaGreatDoorPlainDn
namespace Go.Proofs.YtegigcneimjimaaGreatDoor

/-- A mark's name. -/
def nameL (i k : Nat) : List UInt8 := [109, UInt8.ofNat (65 + i % 26), UInt8.ofNat (65 + i / 26 % 26), UInt8.ofNat (48 + k % 10), UInt8.ofNat (48 + k / 10 % 10), UInt8.ofNat (48 + k / 100 % 10)]
/-- The marks of a list: numbers from .. from + n - 1. -/
def mkN (i fr n : Nat) : List (List UInt8) := (List.range n).map fun j => nameL i (fr + j)
theorem mkN_length (i fr n : Nat) : (mkN i fr n).length = n := by simp [mkN]
theorem mkN_succ (i fr n : Nat) : mkN i fr (n + 1) = mkN i fr n ++ [nameL i (fr + n)] := by simp [mkN, List.range_succ]
theorem mkN_add (i n : Nat) : ∀ m, mkN i 0 (n + m) = mkN i 0 n ++ mkN i n m
  | 0 => by simp [mkN]
  | m + 1 => by rw [← Nat.add_assoc, mkN_succ, mkN_succ, mkN_add i n m, List.append_assoc, Nat.zero_add]
theorem mkN_get (i fr n j : Nat) (h : j < n) : (mkN i fr n)[j]? = some (nameL i (fr + j)) := by simp [mkN, h]
theorem mkN_take (i n j : Nat) (h : j ≤ n) : (mkN i 0 n).take j = mkN i 0 j := by
  obtain ⟨m, rfl⟩ := Nat.le.dest h
  rw [mkN_add, List.take_left' (mkN_length _ _ _)]
/-- Pairs that bear a name alone. -/
def prs (l : List (List UInt8)) : List Av := l.map fun s => (s, [])
theorem prs_length (l : List (List UInt8)) : (prs l).length = l.length := by simp [prs]
theorem prs_append (a b : List (List UInt8)) : prs (a ++ b) = prs a ++ prs b := by simp [prs]
end Go.Proofs.YtegigcneimjimaaGreatDoor
