/- ber: elements, plainly: whether one can be written, and what is written. -/
import Derived.Test.YtaojidcneocelaaGreatDoorBase
namespace Go.Proofs.YtaojidcneocelaaGreatDoor
open Go.RowKit Go.Lib

/-- An element: its class, its tag, whether it is constructed, its bytes, what is within it. -/
inductive El where
  | mk (cls tag : Int) (cons : Bool) (bytes : List UInt8) (kids : List El)
def El.cls : El → Int
  | .mk c _ _ _ _ => c
def El.tag : El → Int
  | .mk _ t _ _ _ => t
def El.cons : El → Bool
  | .mk _ _ k _ _ => k
def El.bytes : El → List UInt8
  | .mk _ _ _ b _ => b
def El.kids : El → List El
  | .mk _ _ _ _ ks => ks
mutual
/-- How deep an element is. -/
def depE : El → Nat
  | .mk _ _ _ _ ks => depL ks + 1
def depL : List El → Nat
  | [] => 0
  | e :: r => max (depE e) (depL r)
end
mutual
/-- All lists are short enough to be told of. -/
def SmE : El → Prop
  | .mk _ _ _ b ks => b.length ≤ 1000000000 ∧ ks.length ≤ 1000000000 ∧ SmL ks
def SmL : List El → Prop
  | [] => True
  | e :: r => SmE e ∧ SmL r
end
mutual
/-- ber.each: is every element that does not stand too deep as asked? -/
def eachE (p : El → Bool) : Nat → El → Bool
  | d, .mk c t k b ks => if 20 ≤ d then true else p (.mk c t k b ks) && eachL p (d + 1) ks
def eachL (p : El → Bool) : Nat → List El → Bool
  | _, [] => true
  | d, e :: r => eachE p d e && eachL p d r
end
mutual
/-- ber.deep. -/
def deepE : Nat → El → Bool
  | d, .mk _ _ _ _ ks => if 20 ≤ d then true else deepL (d + 1) ks
def deepL : Nat → List El → Bool
  | _, [] => false
  | d, e :: r => deepE d e || deepL d r
end
def hasTagE : El → Bool
  | .mk c t _ _ _ => decide (0 ≤ c) && decide (c ≤ 3) && decide (0 ≤ t) && decide (t ≤ 30)
def hasFormE : El → Bool
  | .mk _ _ k b ks => if k then decide (b = []) else decide (ks = [])
/-- ber.length, as far as it is asked. -/
def lenB (n : Nat) : List UInt8 :=
  if n < 128 then [UInt8.ofNat n] else if n < 256 then [129, UInt8.ofNat n] else if n < 65536 then [130, UInt8.ofNat (n / 256), UInt8.ofNat n] else [131, UInt8.ofNat (n / 65536), UInt8.ofNat (n / 256), UInt8.ofNat n]
mutual
/-- ber.size. -/
def sizeE : El → Nat
  | .mk _ _ _ b ks => min (1 + (lenB (min (sizeL b.length ks) 65537)).length + sizeL b.length ks) 65537
def sizeL : Nat → List El → Nat
  | n, [] => n
  | n, e :: r => sizeL (min (n + sizeE e) 65537) r
end
def sumE : List El → Nat
  | [] => 0
  | e :: r => sizeE e + sumE r
mutual
/-- ber.put. -/
def putE : El → List UInt8
  | .mk c t k b ks => UInt8.ofNat (c.toNat * 64 + t.toNat + (if k then 32 else 0)) :: lenB (b.length + sumE ks) ++ b ++ putL ks
def putL : List El → List UInt8
  | [] => []
  | e :: r => putE e ++ putL r
end
/-- ber.Write: the bytes and the error. -/
def writeE (e : El) : List UInt8 × Int :=
  if eachE hasTagE 0 e = false then ([], 21) else if eachE hasFormE 0 e = false then ([], 24) else if deepE 0 e then ([], 23) else if 65536 < sizeE e then ([], 2) else (putE e, 0)
theorem SmL_get : ∀ (l : List El) (j : Nat) (e : El), SmL l → l[j]? = some e → SmE e
  | [], _, _, _, h => by simp at h
  | x :: r, 0, e, h, hj => by simp at hj; subst hj; exact h.1
  | x :: r, j + 1, e, h, hj => SmL_get r j e h.2 (by simpa using hj)
theorem depL_get : ∀ (l : List El) (j : Nat) (e : El), l[j]? = some e → depE e ≤ depL l
  | [], _, _, h => by simp at h
  | x :: r, 0, e, hj => by simp at hj; subst hj; simp only [depL]; omega
  | x :: r, j + 1, e, hj => by
    have := depL_get r j e (by simpa using hj)
    simp only [depL]; omega
end Go.Proofs.YtaojidcneocelaaGreatDoor
