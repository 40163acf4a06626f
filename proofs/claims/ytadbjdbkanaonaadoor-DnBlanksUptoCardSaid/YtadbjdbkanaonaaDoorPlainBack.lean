/- Chapter 4, plain: what is printed is read as the name; what is read can be printed, but for its length. -/
import Derived.Test.YtadbjdbkanaonaaDoorPlainEsc
import Derived.Test.YtadbjdbkanaonaaDoorPlainNum
namespace Go.Proofs.YtadbjdbkanaonaaDoor
open Go.Lib

/-- What may stand behind a value. -/
def Fin1 (u : List UInt8) : Prop := u = [] ∨ ∃ t, u = 44 :: t ∨ u = 43 :: t
theorem Fin1.blanks {u : List UInt8} (h : Fin1 u) : blanksB u = u := by
  rcases h with rfl | ⟨t, rfl | rfl⟩
  · rfl
  · exact blanks_ne (by decide)
  · exact blanks_ne (by decide)
theorem rVal_fin (f : Nat) (u b : List UInt8) (n : Nat) (h : Fin1 u) (hf : u.length ≤ f) : rVal f u b n = some (b.take n, u) := by
  rcases h with rfl | ⟨t, rfl | rfl⟩
  · cases f <;> rfl
  · obtain ⟨f', rfl⟩ : ∃ f', f = f' + 1 := ⟨f - 1, by simp at hf; omega⟩
    rw [rVal, if_pos (.inl rfl)]
  · obtain ⟨f', rfl⟩ : ∃ f', f = f' + 1 := ⟨f - 1, by simp at hf; omega⟩
    rw [rVal, if_pos (.inr rfl)]
theorem rVal_wr : ∀ (v : List UInt8) (first : Bool) (b : List UInt8) (n f : Nat) (u : List UInt8), v ≠ [] → Fin1 u → (wrB first v ++ u).length ≤ f → rVal f (wrB first v ++ u) b n = some (b ++ v, u)
  | [], _, _, _, _, _, h, _, _ => absurd rfl h
  | c :: t, first, b, n, f, u, _, hu, hf => by
    obtain ⟨f', rfl⟩ : ∃ f', f = f' + 1 := ⟨f - 1, by
      have h1 : 1 ≤ (wrB first (c :: t) ++ u).length := by
        rw [wrB]
        split
        · simp
        · split <;> simp
      omega⟩
    have go : ∀ m g, (t = [] → m = b.length + 1) → (wrB false t ++ u).length ≤ g → rVal g (wrB false t ++ u) (b ++ [c]) m = some (b ++ c :: t, u) := by
      intro m g hm hg
      cases ht : t with
      | nil =>
        rw [ht] at hg
        rw [hm ht, wrB, List.nil_append, rVal_fin _ _ _ _ hu (by simpa [wrB] using hg)]
        rw [List.take_of_length_le (by simp)]
      | cons x y =>
        rw [ht] at hg
        rw [rVal_wr (x :: y) false (b ++ [c]) m g u (by simp) hu hg]
        simp
    rw [wrB] at hf ⊢
    by_cases h0 : c = 0
    · subst h0
      rw [if_pos rfl] at hf ⊢
      have he : rEsc (48 :: 48 :: (wrB false t ++ u)) = some (0, wrB false t ++ u) := by
        simp only [rEsc]
        rw [if_neg (by decide)]
        rfl
      show rVal (f' + 1) (92 :: 48 :: 48 :: (wrB false t ++ u)) b n = _
      rw [rVal, if_neg (by decide), if_pos rfl, he]
      exact go _ _ (fun _ => rfl) (by simp at hf ⊢; omega)
    · rw [if_neg h0] at hf ⊢
      by_cases h1 : c ∈ specL ∨ (first = true ∧ (c = 35 ∨ c = 32)) ∨ (t = [] ∧ c = 32)
      · rw [if_pos h1] at hf ⊢
        have hm : c ∈ escL := by
          rcases h1 with h | ⟨_, rfl | rfl⟩ | ⟨_, rfl⟩
          · have : ∀ x ∈ specL, x ∈ escL := by decide
            exact this c h
          · decide
          · decide
          · decide
        have he : rEsc (c :: (wrB false t ++ u)) = some (c, wrB false t ++ u) := by
          simp only [rEsc]
          rw [if_pos hm]
        show rVal (f' + 1) (92 :: c :: (wrB false t ++ u)) b n = _
        rw [rVal, if_neg (by decide), if_pos rfl, he]
        exact go _ _ (fun _ => rfl) (by simp at hf ⊢; omega)
      · rw [if_neg h1] at hf ⊢
        have hs : c ∉ specL := fun h => h1 (.inl h)
        have hcp : ¬ (c = 44 ∨ c = 43) := by
          rintro (rfl | rfl)
          · exact hs (by decide)
          · exact hs (by decide)
        have h92 : c ≠ 92 := by rintro rfl; exact hs (by decide)
        show rVal (f' + 1) (c :: (wrB false t ++ u)) b n = _
        rw [rVal, if_neg hcp, if_neg h92, if_neg (by rintro (h | h); exact h0 h; exact hs h)]
        refine go _ _ (fun ht => ?_) (by simp at hf ⊢; omega)
        rw [if_neg (fun h => h1 (.inr (.inr ⟨ht, h⟩)))]
theorem wr_head (v u : List UInt8) (hu : Fin1 u) : (∃ t, wrB true v ++ u = 35 :: t) = False ∧ (∃ t, wrB true v ++ u = 32 :: t) = False := by
  have hf : ∀ k : UInt8, k ≠ 43 → k ≠ 44 → ¬ ∃ t, u = k :: t := by
    rintro k h1 h2 ⟨t, ht⟩
    rcases hu with rfl | ⟨t', rfl | rfl⟩
    · cases ht
    · cases ht; exact h2 rfl
    · cases ht; exact h1 rfl
  have key : ∀ k : UInt8, k = 35 ∨ k = 32 → ¬ ∃ t, wrB true v ++ u = k :: t := by
    rintro k hk ⟨t, ht⟩
    cases v with
    | nil => exact hf k (by rcases hk with rfl | rfl <;> decide) (by rcases hk with rfl | rfl <;> decide) ⟨t, ht⟩
    | cons c w =>
      rw [wrB] at ht
      split at ht
      · have := (List.cons.inj ht).1; rcases hk with rfl | rfl <;> exact absurd this (by decide)
      · split at ht
        · have := (List.cons.inj ht).1; rcases hk with rfl | rfl <;> exact absurd this (by decide)
        · rename_i h
          have := (List.cons.inj ht).1
          exact h (.inr (.inl ⟨rfl, by rw [this]; exact hk⟩))
  exact ⟨eq_false (key 35 (.inl rfl)), eq_false (key 32 (.inr rfl))⟩
theorem blanks_head {l : List UInt8} (h : ¬ ∃ t, l = 32 :: t) : blanksB l = l := by
  cases l with
  | nil => rfl
  | cons c t => exact blanks_ne (fun e => h ⟨t, by rw [e]⟩)
theorem take_every {p : UInt8 → Bool} : ∀ {l u : List UInt8}, (∀ c ∈ l, p c = true) → (∀ c t, u = c :: t → p c = false) → (l ++ u).takeWhile p = l ∧ (l ++ u).dropWhile p = u
  | [], u, _, h => by
    cases u with
    | nil => exact ⟨rfl, rfl⟩
    | cons c t =>
      have := h c t rfl
      exact ⟨List.takeWhile_cons_of_neg (by simp [this]), List.dropWhile_cons_of_neg (by simp [this])⟩
  | c :: l, u, h, hu => by
    have ih := take_every (l := l) (u := u) (fun x hx => h x (List.mem_cons_of_mem _ hx)) hu
    have hc := h c (List.mem_cons_self ..)
    rw [List.cons_append, List.takeWhile_cons_of_pos hc, List.dropWhile_cons_of_pos hc, ih.1, ih.2]
    exact ⟨rfl, rfl⟩
theorem rHex_back (v u : List UInt8) (hv : v ≠ []) (hu : Fin1 u) : rHex (hexL v ++ u) = some (v, u) := by
  have h := take_every (p := isHex) (l := hexL v) (u := u) (hexL_all v) (fun c t e => by
    subst e
    rcases hu with h | ⟨t', h | h⟩
    · cases h
    · cases h; decide
    · cases h; decide)
  unfold rHex
  rw [h.1, h.2, unhexL_hexL, if_pos]
  refine ⟨by rw [hexL_length]; omega, ?_⟩
  intro e
  have := hexL_length v
  rw [e] at this
  exact hv (List.length_eq_zero_iff.1 (by simp at this; omega))
theorem rValue_back (v u : List UInt8) (hu : Fin1 u) : blanksB (writtenB v ++ u) = writtenB v ++ u ∧ rValue (writtenB v ++ u) = some (v, u) := by
  unfold writtenB
  by_cases hv : validD v = true
  · rw [if_pos hv]
    have hh := wr_head v u hu
    refine ⟨blanks_head (by rw [hh.2]; exact id), ?_⟩
    have hr : rValue (wrB true v ++ u) = rVal (wrB true v ++ u).length (wrB true v ++ u) [] 0 := by
      unfold rValue
      split
      · rename_i t heq
        exact (hh.1 ▸ (⟨t, heq⟩ : ∃ t, wrB true v ++ u = 35 :: t) : False).elim
      · rfl
    rw [hr]
    by_cases h0 : v = []
    · subst h0
      rw [wrB, List.nil_append, rVal_fin _ _ _ _ hu (Nat.le_refl _)]
      rfl
    · rw [rVal_wr v true [] 0 _ u h0 hu (Nat.le_refl _)]
      rfl
  · rw [if_neg hv]
    refine ⟨blanks_ne (by decide), ?_⟩
    show rHex (hexL v ++ u) = _
    exact rHex_back v u (by rintro rfl; exact hv (by decide +kernel)) hu
theorem numGo_all : ∀ (s cur : List UInt8) (p : Nat), numGo s cur p = true → ∀ c ∈ s, inTyB c = true
  | [], _, _, _ => fun c hc => by cases hc
  | x :: t, cur, p, h => by
    intro c hc
    rw [numGo] at h
    by_cases hd : digB x = true
    · rw [if_pos hd] at h
      rcases List.mem_cons.1 hc with rfl | hc
      · simp [inTyB, hd]
      · exact numGo_all t _ _ h c hc
    · rw [if_neg hd] at h
      split at h
      · rename_i h2
        simp at h2
        rcases List.mem_cons.1 hc with rfl | hc
        · simp [inTyB, h2.2]
        · exact numGo_all t _ _ h c hc
      · cases h
theorem isTy_all {t : List UInt8} (h : isTyB t = true) : t ≠ [] ∧ ∀ c ∈ t, inTyB c = true := by
  unfold isTyB at h
  split at h
  · cases h
  · rename_i h0
    refine ⟨fun e => h0 (.inl e), ?_⟩
    split at h
    · intro c hc
      have := List.all_eq_true.1 h c hc
      simp only [Bool.and_eq_true] at this
      exact this.1
    · rw [oid_numGo] at h
      exact numGo_all t [] 0 h
theorem rPair_back (a : Av) (u : List UInt8) (ht : isTyB a.1 = true) (hu : Fin1 u) : rPair (avB a ++ u) = some (a, u) := by
  obtain ⟨h0, hall⟩ := isTy_all ht
  obtain ⟨hb, hv⟩ := rValue_back a.2 u hu
  have e : avB a ++ u = a.1 ++ 61 :: (writtenB a.2 ++ u) := by simp [avB]
  have h1 : blanksB (avB a ++ u) = avB a ++ u := by
    apply blanks_head
    rintro ⟨t, he⟩
    rw [e] at he
    cases h : a.1 with
    | nil => exact h0 h
    | cons x y =>
      rw [h] at he hall
      cases he
      exact absurd (hall 32 (List.mem_cons_self ..)) (by decide)
  have h2 := take_every (p := inTyB) (l := a.1) (u := 61 :: (writtenB a.2 ++ u)) hall (fun c t e => by cases e; decide)
  have h5 : blanksB (61 :: (writtenB a.2 ++ u)) = 61 :: (writtenB a.2 ++ u) := blanks_ne (by decide)
  unfold rPair
  simp only [h1]
  rw [e]
  simp only [h2.1, h2.2, ht, h5, hb, hv, hu.blanks, if_true]
theorem rPart_back : ∀ (r : List Av) (o : List Av) (f : Nat) (u : List UInt8), r ≠ [] → (∀ a ∈ r, isTyB a.1 = true) → (u = [] ∨ ∃ t, u = 44 :: t) → r.length ≤ f → rPart f (partB r ++ u) o = some (o ++ r, u)
  | [], _, _, _, h, _, _, _ => absurd rfl h
  | [a], o, f, u, _, ha, hu, hf => by
    obtain ⟨f', rfl⟩ : ∃ f', f = f' + 1 := ⟨f - 1, by simp at hf; omega⟩
    have hp := rPair_back a u (ha a (by simp)) (by rcases hu with h | ⟨t, h⟩; exact .inl h; exact .inr ⟨t, .inl h⟩)
    show rPart (f' + 1) (avB a ++ u) o = _
    rw [rPart, hp]
    rcases hu with rfl | ⟨t, rfl⟩ <;> rfl
  | a :: b :: r, o, f, u, _, ha, hu, hf => by
    obtain ⟨f', rfl⟩ : ∃ f', f = f' + 1 := ⟨f - 1, by simp at hf; omega⟩
    have e : partB (a :: b :: r) ++ u = avB a ++ 43 :: (partB (b :: r) ++ u) := by simp [partB, joinB]
    have hp := rPair_back a (43 :: (partB (b :: r) ++ u)) (ha a (by simp)) (.inr ⟨_, .inr rfl⟩)
    rw [e, rPart, hp]
    show rPart f' (partB (b :: r) ++ u) (o ++ [a]) = _
    rw [rPart_back (b :: r) (o ++ [a]) f' u (by simp) (fun x hx => ha x (List.mem_cons_of_mem _ hx)) hu (by simp at hf ⊢; omega)]
    simp
theorem avB_len (a : Av) : 1 ≤ (avB a).length := by simp [avB]; omega
theorem partB_len : ∀ (r : List Av), (∀ a ∈ r, isTyB a.1 = true) → r.length ≤ (partB r).length
  | [], _ => by simp
  | [a], h => by have := avB_len a; simpa [partB, joinB] using this
  | a :: b :: r, h => by
    have := partB_len (b :: r) (fun x hx => h x (List.mem_cons_of_mem _ hx))
    have h1 := avB_len a
    have e : partB (a :: b :: r) = avB a ++ 43 :: partB (b :: r) := by simp [partB, joinB]
    rw [e]
    simp at this ⊢
    omega
theorem rName_back : ∀ (d : List (List Av)) (o : List (List Av)) (f : Nat), d ≠ [] → rightB d = true → d.length ≤ f → rName f (joinB 44 (d.map partB)) o = some (o ++ d)
  | [], _, _, h, _, _ => absurd rfl h
  | [r], o, f, _, hr, hf => by
    obtain ⟨f', rfl⟩ : ∃ f', f = f' + 1 := ⟨f - 1, by simp at hf; omega⟩
    simp only [rightB, List.all_cons, List.all_nil, Bool.and_true, Bool.and_eq_true, List.all_eq_true] at hr
    have hp := rPart_back r [] ((partB r).length + 1) [] (by intro e; subst e; simp at hr) hr.2 (.inl rfl) (by have := partB_len r hr.2; omega)
    rw [List.append_nil, List.nil_append] at hp
    show rName (f' + 1) (partB r) o = _
    rw [rName, hp]
  | r :: q :: d, o, f, _, hr, hf => by
    obtain ⟨f', rfl⟩ : ∃ f', f = f' + 1 := ⟨f - 1, by simp at hf; omega⟩
    have hr2 : rightB (q :: d) = true := by
      unfold rightB at hr ⊢
      rw [List.all_cons, Bool.and_eq_true] at hr
      exact hr.2
    have hr1 : (∀ a ∈ r, isTyB a.1 = true) ∧ r ≠ [] := by
      unfold rightB at hr
      rw [List.all_cons, Bool.and_eq_true, Bool.and_eq_true, List.all_eq_true] at hr
      exact ⟨hr.1.2, by intro e; subst e; simp at hr⟩
    have e : joinB 44 ((r :: q :: d).map partB) = partB r ++ 44 :: joinB 44 ((q :: d).map partB) := by simp [joinB]
    have hp := rPart_back r [] ((partB r ++ 44 :: joinB 44 ((q :: d).map partB)).length + 1) (44 :: joinB 44 ((q :: d).map partB)) hr1.2 hr1.1 (.inr ⟨_, rfl⟩) (by have := partB_len r hr1.1; simp; omega)
    rw [List.nil_append] at hp
    rw [e, rName, hp]
    show rName f' (joinB 44 ((q :: d).map partB)) (o ++ [r]) = _
    rw [rName_back (q :: d) (o ++ [r]) f' (by simp) hr2 (by simp at hf ⊢; omega)]
    simp
theorem joinB_len : ∀ (d : List (List Av)), rightB d = true → d.length ≤ (joinB 44 (d.map partB)).length
  | [], _ => by simp
  | [r], hr => by
    simp only [rightB, List.all_cons, List.all_nil, Bool.and_true, Bool.and_eq_true, List.all_eq_true] at hr
    have := partB_len r hr.2
    have h0 : r ≠ [] := by intro e; subst e; simp at hr
    have : 1 ≤ r.length := List.length_pos_iff.2 h0
    simp [joinB]
    omega
  | r :: q :: d, hr => by
    have hr2 : rightB (q :: d) = true := by
      unfold rightB at hr ⊢
      rw [List.all_cons, Bool.and_eq_true] at hr
      exact hr.2
    have ih := joinB_len (q :: d) hr2
    have e : joinB 44 ((r :: q :: d).map partB) = partB r ++ 44 :: joinB 44 ((q :: d).map partB) := by simp [joinB]
    rw [e]
    simp only [List.length_append, List.length_cons] at ih ⊢
    omega
/-- What is printed is read as the name. -/
theorem parse_print (d : List (List Av)) (t : List UInt8) (h : printB d = (t, 0)) : parseB t = (d, 0) := by
  unfold printB at h
  split at h
  · cases h
  · rename_i hr
    have hr : rightB d = true := by simpa using hr
    split at h
    · cases h
    · rename_i hl
      split at h
      · cases h
      · rename_i hlen
        cases h
        unfold parseB
        rw [if_neg hlen]
        have hn : nameB (joinB 44 (d.map partB)) = some d := by
          by_cases h0 : d = []
          · subst h0; rfl
          · have hlen0 := joinB_len d hr
            unfold nameB
            rw [if_neg (by intro e; rw [e] at hlen0; simp at hlen0; exact h0 hlen0)]
            have := rName_back d [] ((joinB 44 (d.map partB)).length + 1) h0 hr (by omega)
            simpa using this
        rw [hn]
        simp only
        rw [if_neg hl]
theorem rPair_ty {r u : List UInt8} {a : Av} (h : rPair r = some (a, u)) : isTyB a.1 = true := by
  unfold rPair at h
  simp only at h
  split at h
  · rename_i ht
    split at h
    · split at h
      · cases h; exact ht
      · cases h
    · cases h
  · cases h
theorem rPart_ty : ∀ (f : Nat) (r : List UInt8) (o p : List Av) (u : List UInt8), (∀ a ∈ o, isTyB a.1 = true) → rPart f r o = some (p, u) → p ≠ [] ∧ ∀ a ∈ p, isTyB a.1 = true
  | 0, _, _, _, _, _, h => by cases h
  | f + 1, r, o, p, u, ho, h => by
    rw [rPart] at h
    cases hp : rPair r with
    | none => rw [hp] at h; cases h
    | some q =>
      obtain ⟨a, z⟩ := q
      have ha := rPair_ty hp
      have ho' : ∀ x ∈ o ++ [a], isTyB x.1 = true := by
        intro x hx
        rcases List.mem_append.1 hx with hx | hx
        · exact ho x hx
        · simp at hx; subst hx; exact ha
      rw [hp] at h
      simp only at h
      split at h
      · exact rPart_ty f _ _ p u ho' h
      · cases h; exact ⟨by simp, ho'⟩
theorem rName_right : ∀ (f : Nat) (r : List UInt8) (o d : List (List Av)), rightB o = true → rName f r o = some d → rightB d = true
  | 0, _, _, _, _, h => by cases h
  | f + 1, r, o, d, ho, h => by
    rw [rName] at h
    cases hp : rPart (r.length + 1) r [] with
    | none => rw [hp] at h; cases h
    | some q =>
      obtain ⟨p, z⟩ := q
      obtain ⟨h1, h2⟩ := rPart_ty _ _ _ _ _ (fun a ha => by cases ha) hp
      have ho' : rightB (o ++ [p]) = true := by
        unfold rightB at ho ⊢
        rw [List.all_append, ho, Bool.true_and, List.all_cons, List.all_nil, Bool.and_true, Bool.and_eq_true, List.all_eq_true]
        exact ⟨by cases p <;> simp_all, h2⟩
      rw [hp] at h
      simp only at h
      split at h
      · exact rName_right f _ _ d ho' h
      · cases h; exact ho'
      · cases h
theorem nameB_right {s : List UInt8} {d : List (List Av)} (h : nameB s = some d) : rightB d = true := by
  unfold nameB at h
  split at h
  · cases h; rfl
  · exact rName_right _ _ _ _ rfl h
/-- What is read is printed, but for its length. -/
theorem print_parse (s : List UInt8) (d : List (List Av)) (h : parseB s = (d, 0)) : (printB d).2 = 0 ∨ (printB d).2 = 2 := by
  unfold parseB at h
  split at h
  · cases h
  · split at h
    · cases h
    · rename_i d' hn
      split at h
      · cases h
      · rename_i hl
        cases h
        unfold printB
        rw [if_neg (by rw [nameB_right hn]; decide), if_neg hl]
        split
        · exact .inr rfl
        · exact .inl rfl
theorem parse_err (s : List UInt8) (h : (parseB s).2 ≠ 0) : (parseB s).1 = [] := by
  unfold parseB at h ⊢
  split
  · rfl
  · rename_i h1
    rw [if_neg h1] at h
    split
    · rfl
    · rename_i d hn
      rw [hn] at h
      simp only at h
      split
      · rfl
      · rename_i hl
        rw [if_neg hl] at h
        exact absurd rfl h
end Go.Proofs.YtadbjdbkanaonaaDoor
