/- Chapter 4, plain: any bytes stand as a value, escaped byte by byte, or as digits. -/
import Derived.Test.YtegigcneimjimaaGreatDoorPlainDn
namespace Go.Proofs.YtegigcneimjimaaGreatDoor
open Go.Lib

theorem hexC_facts : ∀ n : Fin 16, hexC n.val ∉ escL ∧ hexD (hexC n.val) = n.val := by decide +kernel
theorem hexC_esc (n : Nat) (h : n < 16) : hexC n ∉ escL := (hexC_facts ⟨n, h⟩).1
theorem hexD_C (n : Nat) (h : n < 16) : hexD (hexC n) = n := (hexC_facts ⟨n, h⟩).2
theorem isHex_C (n : Nat) (h : n < 16) : isHex (hexC n) = true := by unfold isHex; rw [hexD_C n h]; exact decide_eq_true (by omega)
theorem hexB_C (c : UInt8) : hexB (hexC (c.toNat / 16)) (hexC (c.toNat % 16)) = c := by
  have h := UInt8.toNat_lt c
  unfold hexB
  rw [hexD_C _ (by omega), hexD_C _ (by omega), Int.toNat_natCast, Int.toNat_natCast, show c.toNat / 16 * 16 + c.toNat % 16 = c.toNat by omega]
  simp
/-- Each byte behind a backslash, as two digits. -/
def escB (v : List UInt8) : List UInt8 := v.flatMap fun c => [92, hexC (c.toNat / 16), hexC (c.toNat % 16)]
theorem escB_cons (c : UInt8) (v : List UInt8) : escB (c :: v) = 92 :: hexC (c.toNat / 16) :: hexC (c.toNat % 16) :: escB v := by simp [escB]
theorem hexL_cons (c : UInt8) (v : List UInt8) : hexL (c :: v) = hexC (c.toNat / 16) :: hexC (c.toNat % 16) :: hexL v := by simp [hexL]
theorem rVal_esc : ∀ (v b : List UInt8) (f : Nat), (escB v).length ≤ f → rVal f (escB v) b b.length = some (b ++ v, [])
  | [], b, f, _ => by cases f <;> simp [escB, rVal]
  | c :: v, b, f, h => by
    have hc := UInt8.toNat_lt c
    rw [escB_cons] at h ⊢
    obtain ⟨f', rfl⟩ : ∃ f', f = f' + 1 := ⟨f - 1, by simp at h; omega⟩
    have he : rEsc (hexC (c.toNat / 16) :: hexC (c.toNat % 16) :: escB v) = some (c, escB v) := by
      simp only [rEsc]
      rw [if_neg (hexC_esc _ (by omega))]
      simp only [isHex_C _ (show c.toNat / 16 < 16 by omega), isHex_C _ (show c.toNat % 16 < 16 by omega), Bool.and_self, if_true, hexB_C]
    rw [rVal, if_neg (by decide), if_pos rfl, he]
    simp only
    have := rVal_esc v (b ++ [c]) f' (by simp at h; omega)
    rw [List.length_append] at this
    rw [show b.length + 1 = b.length + [c].length from rfl, this]
    simp
theorem hexL_length (v : List UInt8) : (hexL v).length = 2 * v.length := by
  induction v with
  | nil => rfl
  | cons c v ih => rw [hexL_cons]; simp [ih]; omega
theorem escB_length (v : List UInt8) : (escB v).length = 3 * v.length := by
  induction v with
  | nil => rfl
  | cons c v ih => rw [escB_cons]; simp [ih]; omega
theorem hexL_all (v : List UInt8) : ∀ c ∈ hexL v, isHex c = true := by
  intro c hc
  simp only [hexL, List.mem_flatMap, List.mem_cons, List.not_mem_nil, or_false] at hc
  obtain ⟨x, _, hx⟩ := hc
  have := UInt8.toNat_lt x
  rcases hx with rfl | rfl
  · exact isHex_C _ (by omega)
  · exact isHex_C _ (by omega)
theorem unhexL_hexL : ∀ v : List UInt8, unhexL (hexL v) = v
  | [] => rfl
  | c :: v => by rw [hexL_cons, unhexL, hexB_C, unhexL_hexL v]
theorem takeWhile_every {p : UInt8 → Bool} : ∀ {l : List UInt8}, (∀ c ∈ l, p c = true) → l.takeWhile p = l ∧ l.dropWhile p = []
  | [], _ => ⟨rfl, rfl⟩
  | c :: l, h => by
    have ih := takeWhile_every (l := l) (fun x hx => h x (List.mem_cons_of_mem _ hx))
    rw [List.takeWhile_cons_of_pos (h c (List.mem_cons_self ..)), List.dropWhile_cons_of_pos (h c (List.mem_cons_self ..)), ih.1, ih.2]
    exact ⟨rfl, rfl⟩
theorem rHex_hexL (v : List UInt8) : rHex (hexL v) = if v = [] then none else some (v, []) := by
  unfold rHex
  rw [(takeWhile_every (hexL_all v)).1, (takeWhile_every (hexL_all v)).2, unhexL_hexL]
  by_cases h : v = []
  · subst h; simp [hexL]
  · rw [if_neg h, if_pos]
    refine ⟨by rw [hexL_length]; omega, ?_⟩
    intro e
    have := hexL_length v
    rw [e] at this
    exact h (List.length_eq_zero_iff.1 (by simp at this; omega))
theorem blanks_ne {c : UInt8} {t : List UInt8} (h : c ≠ 32) : blanksB (c :: t) = c :: t := by
  unfold blanksB
  rw [List.dropWhile_cons_of_neg]
  simpa using h
theorem rPair_cn (u : List UInt8) (v r : List UInt8) (hu : blanksB u = u) (h : rValue u = some (v, r)) : rPair (99 :: 110 :: 61 :: u) = some (([99, 110], v), blanksB r) := by
  have h1 : blanksB (99 :: 110 :: 61 :: u) = 99 :: 110 :: 61 :: u := blanks_ne (by decide)
  have h2 : (99 :: 110 :: 61 :: u : List UInt8).takeWhile inTyB = [99, 110] := by
    rw [List.takeWhile_cons_of_pos (by decide), List.takeWhile_cons_of_pos (by decide), List.takeWhile_cons_of_neg (by decide)]
  have h3 : (99 :: 110 :: 61 :: u : List UInt8).dropWhile inTyB = 61 :: u := by
    rw [List.dropWhile_cons_of_pos (by decide), List.dropWhile_cons_of_pos (by decide), List.dropWhile_cons_of_neg (by decide)]
  have h4 : isTyB [99, 110] = true := by decide +kernel
  have h5 : blanksB (61 :: u) = 61 :: u := blanks_ne (by decide)
  unfold rPair
  simp only [h1, h2, h3, h4, h5, hu, h, if_true]
theorem rPair_cn_none (u : List UInt8) (hu : blanksB u = u) (h : rValue u = none) : rPair (99 :: 110 :: 61 :: u) = none := by
  have h1 : blanksB (99 :: 110 :: 61 :: u) = 99 :: 110 :: 61 :: u := blanks_ne (by decide)
  have h2 : (99 :: 110 :: 61 :: u : List UInt8).takeWhile inTyB = [99, 110] := by
    rw [List.takeWhile_cons_of_pos (by decide), List.takeWhile_cons_of_pos (by decide), List.takeWhile_cons_of_neg (by decide)]
  have h3 : (99 :: 110 :: 61 :: u : List UInt8).dropWhile inTyB = 61 :: u := by
    rw [List.dropWhile_cons_of_pos (by decide), List.dropWhile_cons_of_pos (by decide), List.dropWhile_cons_of_neg (by decide)]
  have h4 : isTyB [99, 110] = true := by decide +kernel
  have h5 : blanksB (61 :: u) = 61 :: u := blanks_ne (by decide)
  unfold rPair
  simp only [h1, h2, h3, h4, h5, hu, h, if_true]
theorem name_of_pair (s : List UInt8) (a : Av) (h0 : s ≠ []) (h : rPair s = some (a, [])) : nameB s = some [[a]] := by
  unfold nameB
  rw [if_neg h0, rName, rPart, h]
  rfl
theorem name_none (s : List UInt8) (h0 : s ≠ []) (h : rPair s = none) : nameB s = none := by
  unfold nameB
  rw [if_neg h0, rName, rPart, h]
theorem parse_esc (v : List UInt8) (hv : v.length ≤ 1024) : parseB ([99, 110, 61] ++ escB v) = ([[([99, 110], v)]], 0) := by
  have hb : blanksB (escB v) = escB v := by
    cases v with
    | nil => rfl
    | cons c v => rw [escB_cons]; exact blanks_ne (by decide)
  have hr : rValue (escB v) = some (v, []) := by
    have := rVal_esc v [] (escB v).length (Nat.le_refl _)
    cases v with
    | nil => rfl
    | cons c v => rw [escB_cons] at this ⊢; unfold rValue; simpa using this
  have hp := rPair_cn (escB v) v [] hb hr
  unfold parseB
  rw [if_neg (by simp [escB_length]; omega)]
  show (match nameB (99 :: 110 :: 61 :: escB v) with | none => _ | some d => _) = _
  rw [name_of_pair _ _ (by simp) hp]
  simp only
  rw [if_neg]
  simp [longB]
  omega
theorem parse_hash (v : List UInt8) (hv : v.length ≤ 1024) : parseB ([99, 110, 61, 35] ++ hexL v) = if v = [] then ([], 30) else ([[([99, 110], v)]], 0) := by
  have hr : rValue (35 :: hexL v) = if v = [] then none else some (v, []) := by
    show rHex (hexL v) = _
    exact rHex_hexL v
  have hb : blanksB (35 :: hexL v) = 35 :: hexL v := blanks_ne (by decide)
  unfold parseB
  rw [if_neg (by simp [hexL_length]; omega)]
  show (match nameB (99 :: 110 :: 61 :: 35 :: hexL v) with | none => _ | some d => _) = _
  by_cases h : v = []
  · rw [if_pos h] at hr ⊢
    rw [name_none _ (by simp) (rPair_cn_none _ hb hr)]
  · rw [if_neg h] at hr ⊢
    rw [name_of_pair _ _ (by simp) (rPair_cn _ v [] hb hr)]
    simp only
    rw [if_neg]
    simp [longB]
    omega
def aliveS : List UInt8 := [99, 110, 61, 65, 92, 44, 32, 98, 32, 43, 32, 115, 110, 32, 61, 32, 99, 32, 44, 100, 99, 61, 120]
def aliveN : List (List Av) := [[([99, 110], [65, 44, 32, 98]), ([115, 110], [99])], [([100, 99], [120])]]
def aliveP : List UInt8 := [99, 110, 61, 65, 92, 44, 32, 98, 43, 115, 110, 61, 99, 44, 100, 99, 61, 120]
theorem alive_parse : parseB aliveS = (aliveN, 0) := by decide +kernel
theorem alive_print : printB aliveN = (aliveP, 0) := by decide +kernel
theorem alive_type : isTyB [49, 46, 50] = true := by decide +kernel
end Go.Proofs.YtegigcneimjimaaGreatDoor
