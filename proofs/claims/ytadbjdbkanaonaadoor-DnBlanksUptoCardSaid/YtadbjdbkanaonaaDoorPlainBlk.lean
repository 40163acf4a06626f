/- Chapter 4, plain: blanks beside commas, signs and types say nothing. -/
import Derived.Test.YtadbjdbkanaonaaDoorPlainBack
namespace Go.Proofs.YtadbjdbkanaonaaDoor
open Go.Lib

/-- So many blanks. -/
def bl (n : Nat) : List UInt8 := List.replicate n 32
theorem bl_succ (n : Nat) : bl (n + 1) = 32 :: bl n := rfl
theorem blanks_bl (n : Nat) (l : List UInt8) : blanksB (bl n ++ l) = blanksB l := by
  induction n with
  | zero => rfl
  | succ n ih =>
    rw [bl_succ, List.cons_append]
    unfold blanksB at ih ⊢
    rw [List.dropWhile_cons_of_pos (by decide), ih]
theorem rVal_bl : ∀ (n f : Nat) (u b : List UInt8) (k : Nat), k ≤ b.length → Fin1 u → (bl n ++ u).length ≤ f → rVal f (bl n ++ u) b k = some (b.take k, u)
  | 0, f, u, b, k, _, hu, hf => rVal_fin f u b k hu hf
  | n + 1, f, u, b, k, hk, hu, hf => by
    rw [bl_succ, List.cons_append] at hf ⊢
    obtain ⟨f', rfl⟩ : ∃ f', f = f' + 1 := ⟨f - 1, by simp at hf; omega⟩
    rw [rVal, if_neg (by decide), if_neg (by decide), if_neg (by decide), if_pos rfl, rVal_bl n f' u (b ++ [32]) k (by simp; omega) hu (by simp at hf ⊢; omega)]
    rw [List.take_append_of_le_length hk]
theorem rVal_wrb : ∀ (v : List UInt8) (first : Bool) (b : List UInt8) (m f n : Nat) (u : List UInt8), v ≠ [] → Fin1 u → (wrB first v ++ (bl n ++ u)).length ≤ f → rVal f (wrB first v ++ (bl n ++ u)) b m = some (b ++ v, u)
  | [], _, _, _, _, _, _, h, _, _ => absurd rfl h
  | c :: t, first, b, m, f, n, u, _, hu, hf => by
    obtain ⟨f', rfl⟩ : ∃ f', f = f' + 1 := ⟨f - 1, by
      have h1 : 1 ≤ (wrB first (c :: t) ++ (bl n ++ u)).length := by
        rw [wrB]
        split
        · simp
        · split <;> simp
      omega⟩
    have go : ∀ m g, (t = [] → m = b.length + 1) → (wrB false t ++ (bl n ++ u)).length ≤ g → rVal g (wrB false t ++ (bl n ++ u)) (b ++ [c]) m = some (b ++ c :: t, u) := by
      intro m g hm hg
      cases ht : t with
      | nil =>
        rw [ht] at hg
        rw [hm ht, wrB, List.nil_append, rVal_bl n g u (b ++ [c]) _ (by simp) hu (by simpa [wrB] using hg)]
        rw [List.take_of_length_le (by simp)]
      | cons x y =>
        rw [ht] at hg
        rw [rVal_wrb (x :: y) false (b ++ [c]) m g n u (by simp) hu hg]
        simp
    rw [wrB] at hf ⊢
    by_cases h0 : c = 0
    · subst h0
      rw [if_pos rfl] at hf ⊢
      have he : rEsc (48 :: 48 :: (wrB false t ++ (bl n ++ u))) = some (0, wrB false t ++ (bl n ++ u)) := by
        simp only [rEsc]
        rw [if_neg (by decide)]
        rfl
      show rVal (f' + 1) (92 :: 48 :: 48 :: (wrB false t ++ (bl n ++ u))) b m = _
      rw [rVal, if_neg (by decide), if_pos rfl, he]
      exact go _ _ (fun _ => rfl) (by simp at hf ⊢; omega)
    · rw [if_neg h0] at hf ⊢
      by_cases h1 : c ∈ specL ∨ (first = true ∧ (c = 35 ∨ c = 32)) ∨ (t = [] ∧ c = 32)
      · rw [if_pos h1] at hf ⊢
        have hm : c ∈ escL := by
          rcases h1 with h | ⟨_, rfl | rfl⟩ | ⟨_, rfl⟩
          · have : ∀ x ∈ specL, x ∈ escL := by decide
            exact this c h
          · decide
          · decide
          · decide
        have he : rEsc (c :: (wrB false t ++ (bl n ++ u))) = some (c, wrB false t ++ (bl n ++ u)) := by
          simp only [rEsc]
          rw [if_pos hm]
        show rVal (f' + 1) (92 :: c :: (wrB false t ++ (bl n ++ u))) b m = _
        rw [rVal, if_neg (by decide), if_pos rfl, he]
        exact go _ _ (fun _ => rfl) (by simp at hf ⊢; omega)
      · rw [if_neg h1] at hf ⊢
        have hs : c ∉ specL := fun h => h1 (.inl h)
        have hcp : ¬ (c = 44 ∨ c = 43) := by
          rintro (rfl | rfl)
          · exact hs (by decide)
          · exact hs (by decide)
        have h92 : c ≠ 92 := by rintro rfl; exact hs (by decide)
        show rVal (f' + 1) (c :: (wrB false t ++ (bl n ++ u))) b m = _
        rw [rVal, if_neg hcp, if_neg h92, if_neg (by rintro (h | h); exact h0 h; exact hs h)]
        refine go _ _ (fun ht => ?_) (by simp at hf ⊢; omega)
        rw [if_neg (fun h => h1 (.inr (.inr ⟨ht, h⟩)))]
theorem wr_headb (v u : List UInt8) (hv : v ≠ []) : ∀ k : UInt8, k = 35 ∨ k = 32 → ¬ ∃ t, wrB true v ++ u = k :: t := by
  rintro k hk ⟨t, ht⟩
  cases v with
  | nil => exact hv rfl
  | cons c w =>
    rw [wrB] at ht
    split at ht
    · have := (List.cons.inj ht).1; rcases hk with rfl | rfl <;> exact absurd this (by decide)
    · split at ht
      · have := (List.cons.inj ht).1; rcases hk with rfl | rfl <;> exact absurd this (by decide)
      · rename_i h
        have := (List.cons.inj ht).1
        exact h (.inr (.inl ⟨rfl, by rw [this]; exact hk⟩))
/-- A value between blanks. -/
theorem rValue_bl (v u : List UInt8) (n : Nat) (hu : Fin1 u) : ∃ z, rValue (blanksB (writtenB v ++ (bl n ++ u))) = some (v, z) ∧ blanksB z = u := by
  unfold writtenB
  by_cases hv : validD v = true
  · rw [if_pos hv]
    by_cases h0 : v = []
    · subst h0
      refine ⟨u, ?_, hu.blanks⟩
      rw [wrB, List.nil_append, blanks_bl, hu.blanks]
      have h := rVal_fin u.length u [] 0 hu (Nat.le_refl _)
      rcases hu with rfl | ⟨t, rfl | rfl⟩ <;> exact h
    · have hb : blanksB (wrB true v ++ (bl n ++ u)) = wrB true v ++ (bl n ++ u) := blanks_head (wr_headb v _ h0 32 (.inr rfl))
      refine ⟨u, ?_, hu.blanks⟩
      rw [hb]
      have hr : rValue (wrB true v ++ (bl n ++ u)) = rVal (wrB true v ++ (bl n ++ u)).length (wrB true v ++ (bl n ++ u)) [] 0 := by
        unfold rValue
        split
        · rename_i t heq
          exact absurd ⟨t, heq⟩ (wr_headb v _ h0 35 (.inl rfl))
        · rfl
      rw [hr, rVal_wrb v true [] 0 _ n u h0 hu (Nat.le_refl _)]
      rfl
  · rw [if_neg hv]
    have h0 : v ≠ [] := by rintro rfl; exact hv (by decide +kernel)
    refine ⟨bl n ++ u, ?_, by rw [blanks_bl, hu.blanks]⟩
    rw [List.cons_append, blanks_ne (by decide)]
    show rHex (hexL v ++ (bl n ++ u)) = _
    have h := take_every (p := isHex) (l := hexL v) (u := bl n ++ u) (hexL_all v) (fun c t e => by
      cases n with
      | zero =>
        have e : u = c :: t := e
        subst e
        rcases hu with h | ⟨t', h | h⟩
        · cases h
        · cases h; decide
        · cases h; decide
      | succ n => rw [bl_succ, List.cons_append] at e; cases e; decide)
    unfold rHex
    rw [h.1, h.2, unhexL_hexL, if_pos]
    refine ⟨by rw [hexL_length]; omega, ?_⟩
    intro e
    have := hexL_length v
    rw [e] at this
    exact h0 (List.length_eq_zero_iff.1 (by simp at this; omega))
/-- A pair with blanks round its sign. -/
def avN (n : Nat) (a : Av) : List UInt8 := a.1 ++ bl n ++ [61] ++ bl n ++ writtenB a.2
theorem rPair_bl (n k : Nat) (a : Av) (u : List UInt8) (m : Nat) (ht : isTyB a.1 = true) (hu : Fin1 u) : rPair (bl k ++ (avN n a ++ (bl m ++ u))) = some (a, u) := by
  obtain ⟨h0, hall⟩ := isTy_all ht
  have e : avN n a ++ (bl m ++ u) = a.1 ++ (bl n ++ 61 :: (bl n ++ (writtenB a.2 ++ (bl m ++ u)))) := by simp [avN]
  have h1 : blanksB (bl k ++ (avN n a ++ (bl m ++ u))) = avN n a ++ (bl m ++ u) := by
    rw [blanks_bl]
    apply blanks_head
    rintro ⟨t, he⟩
    rw [e] at he
    cases h : a.1 with
    | nil => exact h0 h
    | cons x y =>
      rw [h] at he hall
      cases he
      exact absurd (hall 32 (List.mem_cons_self ..)) (by decide)
  have h2 := take_every (p := inTyB) (l := a.1) (u := bl n ++ 61 :: (bl n ++ (writtenB a.2 ++ (bl m ++ u)))) hall (fun c t e => by
    cases n with
    | zero => cases e; decide
    | succ n => rw [bl_succ, List.cons_append] at e; cases e; decide)
  have h3 : blanksB (bl n ++ 61 :: (bl n ++ (writtenB a.2 ++ (bl m ++ u)))) = 61 :: (bl n ++ (writtenB a.2 ++ (bl m ++ u))) := by rw [blanks_bl, blanks_ne (by decide)]
  obtain ⟨z, hz, hz2⟩ := rValue_bl a.2 u m hu
  unfold rPair
  simp only [h1]
  rw [e]
  simp only [h2.1, h2.2, ht, h3, blanks_bl, hz, hz2, if_true]
def joinN (n : Nat) (sep : UInt8) : List (List UInt8) → List UInt8
  | [] => []
  | [x] => x
  | x :: t => x ++ bl n ++ [sep] ++ bl n ++ joinN n sep t
def partN (n : Nat) (r : List Av) : List UInt8 := joinN n 43 (r.map (avN n))
def textN (n : Nat) (d : List (List Av)) : List UInt8 := joinN n 44 (d.map (partN n))
theorem rPart_bl : ∀ (r : List Av) (n k m : Nat) (o : List Av) (f : Nat) (u : List UInt8), r ≠ [] → (∀ a ∈ r, isTyB a.1 = true) → (u = [] ∨ ∃ t, u = 44 :: t) → r.length ≤ f → rPart f (bl k ++ (partN n r ++ (bl m ++ u))) o = some (o ++ r, u)
  | [], _, _, _, _, _, _, h, _, _, _ => absurd rfl h
  | [a], n, k, m, o, f, u, _, ha, hu, hf => by
    obtain ⟨f', rfl⟩ : ∃ f', f = f' + 1 := ⟨f - 1, by simp at hf; omega⟩
    have hp := rPair_bl n k a u m (ha a (by simp)) (by rcases hu with h | ⟨t, h⟩; exact .inl h; exact .inr ⟨t, .inl h⟩)
    show rPart (f' + 1) (bl k ++ (avN n a ++ (bl m ++ u))) o = _
    rw [rPart, hp]
    rcases hu with rfl | ⟨t, rfl⟩ <;> rfl
  | a :: b :: r, n, k, m, o, f, u, _, ha, hu, hf => by
    obtain ⟨f', rfl⟩ : ∃ f', f = f' + 1 := ⟨f - 1, by simp at hf; omega⟩
    have e : partN n (a :: b :: r) ++ (bl m ++ u) = avN n a ++ (bl n ++ 43 :: (bl n ++ (partN n (b :: r) ++ (bl m ++ u)))) := by simp [partN, joinN]
    have hp := rPair_bl n k a (43 :: (bl n ++ (partN n (b :: r) ++ (bl m ++ u)))) n (ha a (by simp)) (.inr ⟨_, .inr rfl⟩)
    rw [e, rPart, hp]
    show rPart f' (bl n ++ (partN n (b :: r) ++ (bl m ++ u))) (o ++ [a]) = _
    rw [rPart_bl (b :: r) n n m (o ++ [a]) f' u (by simp) (fun x hx => ha x (List.mem_cons_of_mem _ hx)) hu (by simp at hf ⊢; omega)]
    simp
theorem avN_len (n : Nat) (a : Av) : (avN n a).length = (avB a).length + 2 * n := by simp [avN, avB, bl]; omega
theorem partN_len : ∀ (n : Nat) (r : List Av), (partB r).length ≤ (partN n r).length ∧ (partN n r).length ≤ (partB r).length + 4 * n * r.length
  | n, [] => by simp [partN, partB, joinN, joinB]
  | n, [a] => by
    have := avN_len n a
    have e1 : partN n [a] = avN n a := rfl
    have e2 : partB [a] = avB a := rfl
    rw [e1, e2]
    simp
    omega
  | n, a :: b :: r => by
    have ih := partN_len n (b :: r)
    have h1 := avN_len n a
    have e1 : partN n (a :: b :: r) = avN n a ++ bl n ++ [43] ++ bl n ++ partN n (b :: r) := by simp [partN, joinN]
    have e2 : partB (a :: b :: r) = avB a ++ [43] ++ partB (b :: r) := by simp [partB, joinB]
    have e3 : 4 * n * (a :: b :: r).length = 4 * n * (b :: r).length + 4 * n := by rw [List.length_cons, Nat.mul_add, Nat.mul_one]
    rw [e1, e2, e3]
    simp only [List.length_append, List.length_singleton, bl, List.length_replicate]
    generalize 4 * n * (b :: r).length = q at ih ⊢
    omega
theorem textN_len : ∀ (n : Nat) (d : List (List Av)), (∀ r ∈ d, r.length ≤ 4) → (joinB 44 (d.map partB)).length ≤ (textN n d).length ∧ (textN n d).length ≤ (joinB 44 (d.map partB)).length + 18 * n * d.length
  | n, [], _ => by simp [textN, joinN, joinB]
  | n, [r], h => by
    have h1 := partN_len n r
    have h4 : r.length ≤ 4 := h r (by simp)
    have e1 : textN n [r] = partN n r := rfl
    have e2 : joinB 44 ([r].map partB) = partB r := rfl
    have e3 : 4 * n * r.length ≤ 4 * n * 4 := Nat.mul_le_mul_left _ h4
    rw [e1, e2]
    simp
    omega
  | n, r :: q :: d, h => by
    have ih := textN_len n (q :: d) (fun x hx => h x (List.mem_cons_of_mem _ hx))
    have h1 := partN_len n r
    have h4 : r.length ≤ 4 := h r (by simp)
    have e1 : textN n (r :: q :: d) = partN n r ++ bl n ++ [44] ++ bl n ++ textN n (q :: d) := by simp [textN, joinN]
    have e2 : joinB 44 ((r :: q :: d).map partB) = partB r ++ [44] ++ joinB 44 ((q :: d).map partB) := by simp [joinB]
    have e3 : 4 * n * r.length ≤ 4 * n * 4 := Nat.mul_le_mul_left _ h4
    have e4 : 18 * n * (r :: q :: d).length = 18 * n * (q :: d).length + 18 * n := by rw [List.length_cons, Nat.mul_add, Nat.mul_one]
    rw [e1, e2, e4]
    simp only [List.length_append, List.length_singleton, bl, List.length_replicate]
    generalize 18 * n * (q :: d).length = z at ih ⊢
    omega
theorem rName_bl : ∀ (d : List (List Av)) (n k : Nat) (o : List (List Av)) (f : Nat), d ≠ [] → rightB d = true → d.length ≤ f → rName f (bl k ++ textN n d) o = some (o ++ d)
  | [], _, _, _, _, h, _, _ => absurd rfl h
  | [r], n, k, o, f, _, hr, hf => by
    obtain ⟨f', rfl⟩ : ∃ f', f = f' + 1 := ⟨f - 1, by simp at hf; omega⟩
    simp only [rightB, List.all_cons, List.all_nil, Bool.and_true, Bool.and_eq_true, List.all_eq_true] at hr
    have hp := rPart_bl r n k 0 [] ((bl k ++ partN n r).length + 1) [] (by intro e; subst e; simp at hr) hr.2 (.inl rfl) (by have := partB_len r hr.2; have := partN_len n r; simp; omega)
    have e0 : bl k ++ (partN n r ++ (bl 0 ++ [])) = bl k ++ partN n r := by simp [bl]
    rw [e0, List.nil_append] at hp
    show rName (f' + 1) (bl k ++ partN n r) o = _
    rw [rName, hp]
  | r :: q :: d, n, k, o, f, _, hr, hf => by
    obtain ⟨f', rfl⟩ : ∃ f', f = f' + 1 := ⟨f - 1, by simp at hf; omega⟩
    have hr2 : rightB (q :: d) = true := by
      unfold rightB at hr ⊢
      rw [List.all_cons, Bool.and_eq_true] at hr
      exact hr.2
    have hr1 : (∀ a ∈ r, isTyB a.1 = true) ∧ r ≠ [] := by
      unfold rightB at hr
      rw [List.all_cons, Bool.and_eq_true, Bool.and_eq_true, List.all_eq_true] at hr
      exact ⟨hr.1.2, by intro e; subst e; simp at hr⟩
    have e : bl k ++ textN n (r :: q :: d) = bl k ++ (partN n r ++ (bl n ++ 44 :: (bl n ++ textN n (q :: d)))) := by simp [textN, joinN]
    have hp := rPart_bl r n k n [] ((bl k ++ (partN n r ++ (bl n ++ 44 :: (bl n ++ textN n (q :: d))))).length + 1) (44 :: (bl n ++ textN n (q :: d))) hr1.2 hr1.1 (.inr ⟨_, rfl⟩) (by have := partB_len r hr1.1; have := partN_len n r; simp; omega)
    rw [List.nil_append] at hp
    rw [e, rName, hp]
    show rName f' (bl n ++ textN n (q :: d)) (o ++ [r]) = _
    rw [rName_bl (q :: d) n n (o ++ [r]) f' (by simp) hr2 (by simp at hf ⊢; omega)]
    simp
/-- The text with blanks is read as the name. -/
theorem parse_blanks (d : List (List Av)) (t : List UInt8) (n : Nat) (hn : n ≤ 3) (h : printB d = (t, 0)) (ht : t.length ≤ 60000) : parseB (textN n d) = (d, 0) ∧ t.length ≤ (textN n d).length ∧ (textN n d).length ≤ 65536 := by
  unfold printB at h
  split at h
  · cases h
  · rename_i hr
    have hr : rightB d = true := by simpa using hr
    split at h
    · cases h
    · rename_i hl
      have hlg : d.length ≤ 20 ∧ ∀ x ∈ d, x.length ≤ 4 := by
        have hl2 : longB d = false := by simpa using hl
        unfold longB at hl2
        simp only [Bool.or_eq_false_iff, decide_eq_false_iff_not, List.any_eq_false, Bool.or_eq_true, decide_eq_true_eq, not_or] at hl2
        exact ⟨by omega, fun x hx => by have := (hl2.2 x hx).1; omega⟩
      split at h
      · cases h
      · cases h
        have hlen := textN_len n d hlg.2
        have hm : 18 * n * d.length ≤ 18 * 3 * 20 := Nat.mul_le_mul (Nat.mul_le_mul_left _ hn) hlg.1
        refine ⟨?_, hlen.1, by omega⟩
        unfold parseB
        rw [if_neg (by omega)]
        have hnm : nameB (textN n d) = some d := by
          by_cases h0 : d = []
          · subst h0; rfl
          · have hlen0 := joinB_len d hr
            unfold nameB
            rw [if_neg (by
              intro e
              have h2 := hlen.1
              rw [e, List.length_nil] at h2
              exact h0 (List.length_eq_zero_iff.1 (by omega)))]
            have := rName_bl d n 0 [] ((textN n d).length + 1) h0 hr (by omega)
            simpa [bl] using this
        rw [hnm]
        simp only
        rw [if_neg hl]
theorem joinN_snoc (n : Nat) (sep : UInt8) (x : List UInt8) : ∀ l : List (List UInt8), joinN n sep (l ++ [x]) = (if l = [] then [] else joinN n sep l ++ bl n ++ [sep] ++ bl n) ++ x
  | [] => by simp [joinN]
  | [y] => by simp [joinN]
  | y :: z :: l => by
    have ih := joinN_snoc n sep x (z :: l)
    rw [if_neg (by simp)] at ih ⊢
    have e1 : joinN n sep (y :: z :: l ++ [x]) = y ++ bl n ++ [sep] ++ bl n ++ joinN n sep (z :: l ++ [x]) := rfl
    have e2 : joinN n sep (y :: z :: l) = y ++ bl n ++ [sep] ++ bl n ++ joinN n sep (z :: l) := rfl
    rw [e1, ih, e2]
    simp
/-- The text of the first parts, and of the first pairs of the next one. -/
def upTo (n : Nat) (d : List (List Av)) (i : Nat) : List UInt8 := joinN n 44 ((d.take i).map (partN n))
def inTo (n : Nat) (r : List Av) (k : Nat) : List UInt8 := joinN n 43 ((r.take k).map (avN n))
def sepN (n : Nat) (sep : UInt8) : List UInt8 := bl n ++ [sep] ++ bl n
theorem upTo_step (n : Nat) (d : List (List Av)) (i : Nat) (x : List Av) (h : d[i]? = some x) : upTo n d (i + 1) = (upTo n d i ++ (if i = 0 then [] else sepN n 44)) ++ inTo n x x.length := by
  have hl : i < d.length := (List.getElem?_eq_some_iff.1 h).1
  unfold upTo inTo
  rw [List.take_add_one, h, List.take_of_length_le (Nat.le_refl x.length)]
  simp only [Option.toList_some, List.map_append, List.map_cons, List.map_nil]
  rw [joinN_snoc]
  show _ = _ ++ partN n x
  by_cases hi : i = 0
  · subst hi; simp [joinN]
  · rw [if_neg hi, if_neg (by
      intro e
      have := congrArg List.length e
      rw [List.length_map, List.length_take, List.length_nil] at this
      omega)]
    simp [sepN]
theorem inTo_step (n : Nat) (r : List Av) (k : Nat) (x : Av) (h : r[k]? = some x) : inTo n r (k + 1) = (inTo n r k ++ (if k = 0 then [] else sepN n 43)) ++ avN n x := by
  have hl : k < r.length := (List.getElem?_eq_some_iff.1 h).1
  unfold inTo
  rw [List.take_add_one, h]
  simp only [Option.toList_some, List.map_append, List.map_cons, List.map_nil]
  rw [joinN_snoc]
  by_cases hi : k = 0
  · subst hi; simp [joinN]
  · rw [if_neg hi, if_neg (by
      intro e
      have := congrArg List.length e
      rw [List.length_map, List.length_take, List.length_nil] at this
      omega)]
    simp [sepN]
theorem upTo_all (n : Nat) (d : List (List Av)) : upTo n d d.length = textN n d := by
  unfold upTo textN
  rw [List.take_of_length_le (Nat.le_refl _)]
theorem upTo_zero (n : Nat) (d : List (List Av)) : upTo n d 0 = [] := by simp [upTo, joinN]
theorem inTo_zero (n : Nat) (r : List Av) : inTo n r 0 = [] := by simp [inTo, joinN]
theorem upTo_len (n : Nat) (d : List (List Av)) : ∀ (j i : Nat), i + j = d.length → (upTo n d i).length ≤ (textN n d).length
  | 0, i, h => by rw [Nat.add_zero] at h; subst h; rw [upTo_all]; exact Nat.le_refl _
  | j + 1, i, h => by
    have ih := upTo_len n d j (i + 1) (by omega)
    have hx : d[i]? = some d[i] := List.getElem?_eq_getElem (by omega)
    rw [upTo_step n d i _ hx] at ih
    simp only [List.length_append] at ih
    omega
theorem inTo_len (n : Nat) (r : List Av) : ∀ (j k : Nat), k + j = r.length → (inTo n r k).length ≤ (inTo n r r.length).length
  | 0, k, h => by rw [Nat.add_zero] at h; subst h; exact Nat.le_refl _
  | j + 1, k, h => by
    have ih := inTo_len n r j (k + 1) (by omega)
    have hx : r[k]? = some r[k] := List.getElem?_eq_getElem (by omega)
    rw [inTo_step n r k _ hx] at ih
    simp only [List.length_append] at ih
    omega
end Go.Proofs.YtadbjdbkanaonaaDoor
