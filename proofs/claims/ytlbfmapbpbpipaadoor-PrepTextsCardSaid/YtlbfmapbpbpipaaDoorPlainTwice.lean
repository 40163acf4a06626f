/- Plain laws of chapter 3: prepared twice, prepared and folded. -/
import Derived.Test.YtlbfmapbpbpipaaDoorPlainPrep
namespace Go.Proofs.YtlbfmapbpbpipaaDoor
open Go.Lib

/-- No two blanks beside one another. -/
def ND (ks : List Int) : Prop := ∀ a b, ks ≠ a ++ 32 :: 32 :: b
theorem ND.mid {u v w : List Int} (h : ND (u ++ v ++ w)) : ND v := fun a b hv => h (u ++ a) (b ++ w) (by rw [hv]; simp)
theorem ND.tail {k : Int} {ks : List Int} (h : ND (k :: ks)) : ND ks := ND.mid (u := [k]) (w := []) (by simpa using h)
theorem single_nd : ∀ (ks : List Int) (p : Bool), (p = true → (single p ks).head? ≠ some 32) ∧ ND (single p ks)
  | [], p => ⟨by simp [single], fun a b h => by simp [single] at h⟩
  | k :: ks, p => by
    rw [single]
    split
    · rename_i h
      obtain ⟨_, rfl⟩ := h
      exact single_nd ks true
    · rename_i h
      have ih := single_nd ks (decide (k = 32))
      refine ⟨fun hp => by simp only [List.head?_cons, ne_eq, Option.some.injEq]; intro hk; exact h ⟨hk, hp⟩, fun a b he => ?_⟩
      cases a with
      | nil =>
        simp only [List.nil_append, List.cons.injEq] at he
        exact ih.1 (by simp [he.1]) (by rw [he.2]; simp)
      | cons x a =>
        simp only [List.cons_append, List.cons.injEq] at he
        exact ih.2 a b he.2
theorem single_same : ∀ (ks : List Int) (p : Bool), ND ks → (p = true → ks.head? ≠ some 32) → single p ks = ks
  | [], _, _, _ => rfl
  | k :: ks, p, h, hp => by
    rw [single, if_neg (fun hc => hp hc.2 (by simp [hc.1]))]
    rw [single_same ks _ h.tail]
    intro hk hh
    obtain rfl : k = 32 := of_decide_eq_true hk
    cases ks with
    | nil => simp at hh
    | cons k2 ks =>
      simp only [List.head?_cons, Option.some.injEq] at hh
      subst hh
      exact h [] ks rfl
theorem trimK_infix (ks : List Int) : ∃ u w, ks = u ++ trimK ks ++ w := by
  have h1 : ∃ w, ks = trimKR ks ++ w := by
    refine ⟨(ks.reverse.takeWhile (· == 32)).reverse, ?_⟩
    unfold trimKR
    rw [← List.reverse_append, List.takeWhile_append_dropWhile, List.reverse_reverse]
  obtain ⟨w, hw⟩ := h1
  refine ⟨(trimKR ks).takeWhile (· == 32), w, ?_⟩
  unfold trimK trimKL
  rw [List.takeWhile_append_dropWhile]
  exact hw
theorem dropW_head (ks : List Int) : (ks.dropWhile (· == 32)).head? ≠ some 32 := by
  induction ks with
  | nil => simp
  | cons k ks ih =>
    by_cases hk : k = 32
    · subst hk; simpa using ih
    · rw [List.dropWhile_cons_of_neg (by simpa using hk)]; simpa using hk
theorem dropW_same (ks : List Int) (h : ks.head? ≠ some 32) : ks.dropWhile (· == 32) = ks := by
  cases ks with
  | nil => rfl
  | cons k ks => rw [List.dropWhile_cons_of_neg (by simpa using h)]
theorem trimKR_last (ks : List Int) : (trimKR ks).getLast? ≠ some 32 := by
  unfold trimKR
  rw [List.getLast?_reverse]
  exact dropW_head _
theorem trimK_head (ks : List Int) : (trimK ks).head? ≠ some 32 := dropW_head _
theorem trimK_last (ks : List Int) : (trimK ks).getLast? ≠ some 32 := by
  have h := trimKR_last ks
  have e : (trimKR ks).takeWhile (· == 32) ++ trimK ks = trimKR ks := by unfold trimK trimKL; exact List.takeWhile_append_dropWhile
  intro hl
  apply h
  rw [← e, List.getLast?_append, hl]
  rfl
theorem trimK_same (ks : List Int) (h1 : ks.head? ≠ some 32) (h2 : ks.getLast? ≠ some 32) : trimK ks = ks := by
  unfold trimK trimKL trimKR
  rw [dropW_same ks.reverse (by rw [List.head?_reverse]; exact h2), List.reverse_reverse, dropW_same ks h1]

/-- A character that Prepare leaves as it is. -/
def Full (fold : Bool) (k : Int) : Prop := Clean k ∧ xR fold k = k
theorem full_x (fold : Bool) {r : Int} (h : mapStays r = true) : Full fold (xR fold r) := by
  refine ⟨clean_x fold h, ?_⟩
  have hc := clean_of_stays r h
  cases fold
  · have e : xR false r = mapR r := by rw [xR, if_neg (by simp)]
    rw [e, xR, if_neg (by simp)]
    exact (clean_map hc).1
  · have e : xR true r = foldR (mapR r) := by rw [xR, if_pos rfl]
    rw [e, xR, if_pos rfl, (clean_map (clean_fold hc)).1, fold_fold]
theorem kept_full (fold : Bool) : ∀ (rs : List Nat) (ks : List Int), kept fold rs = some ks → ∀ k ∈ ks, Full fold k
  | [], ks, h => by simp only [kept, Option.some.injEq] at h; subst h; intro k hk; simp at hk
  | r :: rs, ks, h => by
    rw [kept] at h
    split at h
    · cases h
    · cases hk : kept fold rs with
      | none => rw [hk] at h; cases h
      | some ks' =>
        rw [hk] at h
        simp only [Option.map_some, Option.some.injEq] at h
        have ih := kept_full fold rs ks' hk
        subst h
        intro k hk
        split at hk
        · rename_i hs
          rcases List.mem_cons.1 hk with rfl | hk
          · exact full_x fold hs
          · exact ih k hk
        · exact ih k hk
theorem clean_cast {k : Int} (h : Clean k) : ((k.toNat : Nat) : Int) = k := by have := clean_bounds h; omega
theorem kept_map (fold : Bool) : ∀ (ks : List Int), AllClean ks → kept fold (ks.map Int.toNat) = some (ks.map (xR fold))
  | [], _ => rfl
  | k :: ks, h => by
    have hc := h k (by simp)
    have hm := clean_map hc
    rw [List.map_cons, kept, clean_cast hc, hm.2.2, if_neg (by simp), kept_map fold ks (fun x hx => h x (by simp [hx]))]
    simp [hm.2.1]
theorem kept_same (fold : Bool) (ks : List Int) (h : ∀ k ∈ ks, Full fold k) : kept fold (ks.map Int.toNat) = some ks := by
  rw [kept_map fold ks (fun k hk => (h k hk).1)]
  congr 1
  exact (List.map_congr_left (fun k hk => (h k hk).2)).trans (List.map_id ks)

/-- What Prepare of a text out of characters that stay is. -/
theorem prep_enc (fold : Bool) (t : List Int) (hf : AllClean t) (h0 : ND t) (h1 : t.head? ≠ some 32) (h2 : t.getLast? ≠ some 32) : prepL (encAll t) fold = some (encAll (t.map (xR fold))) := by
  have hv := allClean_valid hf
  rw [prepL_spec, valid_enc t hv, if_pos rfl, runes_enc t hv, kept_map fold t hf]
  have hx : ∀ k ∈ t, (xR fold k = 32 ↔ k = 32) := fun k hk => by rw [x_32, (clean_map (hf k hk)).1]
  have e0 : ND (t.map (xR fold)) := by
    intro a b he
    obtain ⟨t1, t2, rfl, e1, e2⟩ := List.map_eq_append_iff.1 he
    cases t2 with
    | nil => simp at e2
    | cons k1 t2 =>
      cases t2 with
      | nil => simp at e2
      | cons k2 t2 =>
        simp only [List.map_cons, List.cons.injEq] at e2
        obtain ⟨e3, e4, _⟩ := e2
        rw [hx k1 (by simp)] at e3
        rw [hx k2 (by simp)] at e4
        subst e3
        subst e4
        exact h0 t1 t2 rfl
  have e1 : (t.map (xR fold)).head? ≠ some 32 := by
    cases t with
    | nil => simp
    | cons k t => simp only [List.map_cons, List.head?_cons, ne_eq, Option.some.injEq]; rw [hx k (by simp)]; simpa using h1
  have e2 : (t.map (xR fold)).getLast? ≠ some 32 := by
    rcases List.eq_nil_or_concat t with rfl | ⟨t', k, rfl⟩
    · simp
    · rw [List.concat_eq_append] at hx h2 ⊢
      rw [List.map_append, List.map_singleton, List.getLast?_concat]
      rw [List.getLast?_concat] at h2
      simp only [ne_eq, Option.some.injEq] at h2 ⊢
      rw [hx k (by simp)]
      exact h2
  simp only [Option.map_some]
  rw [single_same _ false e0 (by simp), trimK_same _ e1 e2]
  unfold finL
  rw [if_neg]
  rintro ⟨h3, h4⟩
  apply h4
  rw [encAll_eq_nil]
  simpa using h3

/-- What Prepare tells. -/
structure Told (fold : Bool) (l : List UInt8) (a : List UInt8) : Prop where
  form : (a = [32] ∧ l ≠ []) ∨ ∃ t, a = encAll t ∧ (∀ k ∈ t, Full fold k) ∧ ND t ∧ t.head? ≠ some 32 ∧ t.getLast? ≠ some 32 ∧ (t = [] ↔ l = [])
theorem prep_told (l : List UInt8) (fold : Bool) (a : List UInt8) (h : prepL l fold = some a) : Told fold l a := by
  rw [prepL_spec] at h
  split at h
  · cases hk : kept fold (runes l) with
    | none => rw [hk] at h; cases h
    | some ks =>
      rw [hk] at h
      simp only [Option.map_some, Option.some.injEq] at h
      subst h
      refine ⟨?_⟩
      unfold finL
      split
      · rename_i hc
        exact .inl ⟨rfl, hc.2⟩
      · rename_i hc
        obtain ⟨u, w, huw⟩ := trimK_infix (single false ks)
        refine .inr ⟨_, rfl, fun k hm => kept_full fold _ ks hk k (single_mem ks false k (trimK_mem hm)), ?_, trimK_head _, trimK_last _, ?_⟩
        · have := (single_nd ks false).2
          rw [huw] at this
          exact this.mid
        · constructor
          · intro ht
            by_cases hl : l = []
            · exact hl
            · exact absurd ⟨ht, hl⟩ hc
          · rintro rfl
            rw [show runes [] = [] from rfl] at hk
            simp only [kept, Option.some.injEq] at hk
            subst hk
            rfl
  · cases h

theorem prep_32 (fold : Bool) : prepL [32] fold = some [32] := by cases fold <;> decide +kernel

theorem prep_twice (l : List UInt8) (fold : Bool) (a : List UInt8) (h : prepL l fold = some a) : prepL a fold = some a ∧ (a = [] ↔ l = []) ∧ validD a = true := by
  rcases (prep_told l fold a h).form with ⟨rfl, hl⟩ | ⟨t, rfl, hf, h0, h1, h2, he⟩
  · exact ⟨prep_32 fold, by simp [hl], by decide⟩
  · have hc : AllClean t := fun k hk => (hf k hk).1
    refine ⟨?_, by rw [encAll_eq_nil]; exact he, valid_enc t (allClean_valid hc)⟩
    rw [prep_enc fold t hc h0 h1 h2]
    congr 2
    exact (List.map_congr_left (fun k hk => (hf k hk).2)).trans (List.map_id t)

theorem enc_split : ∀ (t : List Int), AllValid t → ∀ (A B : List UInt8), encAll t = A ++ 32 :: B → ∃ t1 t2, t = t1 ++ 32 :: t2 ∧ A = encAll t1 ∧ B = encAll t2
  | [], _, A, B, h => by simp [encAll] at h
  | k :: t, hv, A, B, h => by
    have hv' : AllValid t := fun x hx => hv x (by simp [hx])
    rw [encAll_cons] at h
    by_cases hk : k = 32
    · subst hk
      rw [encR_32] at h
      cases A with
      | nil =>
        simp only [List.cons_append, List.nil_append, List.cons.injEq, true_and] at h
        exact ⟨[], t, rfl, rfl, h.symm⟩
      | cons x A =>
        simp only [List.cons_append, List.nil_append, List.cons.injEq] at h
        obtain ⟨rfl, h⟩ := h
        obtain ⟨t1, t2, rfl, rfl, rfl⟩ := enc_split t hv' A B h
        exact ⟨32 :: t1, t2, rfl, by rw [encAll_cons, encR_32]; rfl, rfl⟩
    · have hn := encR_noblank k (hv k (by simp)) hk
      rcases List.append_eq_append_iff.1 h with ⟨C, rfl, hC⟩ | ⟨C, hC, hC2⟩
      · obtain ⟨t1, t2, rfl, rfl, rfl⟩ := enc_split t hv' C B hC
        exact ⟨k :: t1, t2, rfl, by rw [encAll_cons], rfl⟩
      · cases C with
        | nil =>
          simp only [List.append_nil, List.nil_append] at hC hC2
          obtain ⟨t1, t2, rfl, e1, rfl⟩ := enc_split t hv' [] B (by simpa using hC2.symm)
          refine ⟨k :: t1, t2, rfl, ?_, rfl⟩
          rw [encAll_cons, ← e1, hC]
          simp
        | cons c C =>
          simp only [List.cons_append, List.cons.injEq] at hC2
          exact absurd hC2.1.symm (hn c (by rw [hC]; simp))

/-- Where a blank stands in what Prepare tells: behind a byte and ahead of one, no blank beside it. -/
theorem prep_blank (l : List UInt8) (fold : Bool) (a : List UInt8) (h : prepL l fold = some a) (hs : a ≠ [32]) (i : Nat) (hi : i < a.length) (h32 : a[i] = 32) :
    i ≠ 0 ∧ i ≠ a.length - 1 ∧ ∀ j, (hj : j < a.length) → j + 1 = i → a[j] ≠ 32 := by
  rcases (prep_told l fold a h).form with ⟨rfl, hl⟩ | ⟨t, rfl, hf, h0, h1, h2, he⟩
  · exact absurd rfl hs
  · have hv : AllValid t := allClean_valid fun k hk => (hf k hk).1
    have hsp : encAll t = (encAll t).take i ++ 32 :: (encAll t).drop (i + 1) := by
      rw [← h32, ← List.drop_eq_getElem_cons hi, List.take_append_drop]
    obtain ⟨t1, t2, ht, e1, e2⟩ := enc_split t hv _ _ hsp
    have l1 := congrArg List.length e1
    have l2 := congrArg List.length e2
    rw [List.length_take] at l1
    rw [List.length_drop] at l2
    refine ⟨?_, ?_, ?_⟩
    · rintro rfl
      have : t1 = [] := by rw [← encAll_eq_nil, ← e1]; rfl
      subst this
      exact h1 (by rw [ht]; rfl)
    · intro hl
      have : t2 = [] := by rw [← encAll_eq_nil]; exact List.eq_nil_of_length_eq_zero (by omega)
      subst this
      exact h2 (by rw [ht]; simp)
    · intro j hj hji hb
      subst hji
      have hsp1 : encAll t1 = (encAll t).take j ++ 32 :: [] := by
        rw [← e1, List.take_succ_eq_append_getElem hj, hb]
      obtain ⟨t3, t4, ht3, _, e4⟩ := enc_split t1 (fun k hk => hv k (by rw [ht]; simp [hk])) _ _ hsp1
      have : t4 = [] := by rw [← encAll_eq_nil, ← e4]
      subst this
      subst ht3
      exact h0 t3 t2 (by rw [ht]; simp)

theorem prep_fold (l : List UInt8) : (prepL l false = none ↔ prepL l true = none) ∧ ∀ a, prepL l false = some a → prepL a true = prepL l true := by
  have hk : ∀ rs : List Nat, kept true rs = (kept false rs).map (List.map foldR) := by
    intro rs
    induction rs with
    | nil => rfl
    | cons r rs ih =>
      rw [kept, kept, ih]
      split
      · rfl
      · cases kept false rs with
        | none => rfl
        | some ks =>
          simp only [Option.map_some, Option.some.injEq]
          split
          · simp [xR]
          · rfl
  have hs : ∀ (ks : List Int) (p : Bool), single p (ks.map foldR) = (single p ks).map foldR := by
    intro ks
    induction ks with
    | nil => intro p; rfl
    | cons k ks ih =>
      intro p
      rw [List.map_cons, single, single]
      simp only [fold_32]
      split
      · exact ih true
      · rw [List.map_cons, ih]
  have hd : ∀ ks : List Int, (ks.map foldR).dropWhile (· == 32) = (ks.dropWhile (· == 32)).map foldR := by
    intro ks
    induction ks with
    | nil => rfl
    | cons k ks ih =>
      rw [List.map_cons]
      by_cases h32 : k = 32
      · subst h32
        have e : foldR 32 = 32 := (fold_32 32).2 rfl
        rw [e]
        simpa using ih
      · rw [List.dropWhile_cons_of_neg (by simp [fold_32, h32]), List.dropWhile_cons_of_neg (by simpa using h32), List.map_cons]
  have ht : ∀ ks : List Int, trimK (ks.map foldR) = (trimK ks).map foldR := by
    intro ks
    unfold trimK trimKL trimKR
    rw [← List.map_reverse, hd, ← List.map_reverse, hd]
  have hspec : prepL l true = if validD l then (kept false (runes l)).map (fun ks => finL l ((trimK (single false ks)).map foldR)) else none := by
    rw [prepL_spec, hk]
    cases validD l
    · rfl
    · cases kept false (runes l) with
      | none => rfl
      | some ks => simp only [if_true, Option.map_some]; rw [hs, ht]
  refine ⟨?_, ?_⟩
  · rw [hspec, prepL_spec]
    cases validD l
    · simp
    · cases kept false (runes l) <;> simp
  · intro a ha
    have hto := prep_told l false a ha
    rw [prepL_spec] at ha
    rw [hspec]
    cases hv : validD l
    · rw [hv] at ha; cases ha
    · rw [hv] at ha
      cases hkk : kept false (runes l) with
      | none => rw [hkk] at ha; cases ha
      | some ks =>
        rw [hkk] at ha
        simp only [if_true, Option.map_some, Option.some.injEq] at ha ⊢
        generalize htt : trimK (single false ks) = t at ha ⊢
        unfold finL at ha ⊢
        by_cases hc : t = [] ∧ l ≠ []
        · rw [if_pos hc] at ha
          subst ha
          rw [if_pos ⟨by rw [hc.1]; rfl, hc.2⟩]
          exact prep_32 true
        · rw [if_neg hc] at ha
          subst ha
          rw [if_neg (fun h => hc ⟨by simpa using h.1, h.2⟩)]
          obtain ⟨u, w, huw⟩ := trimK_infix (single false ks)
          have hnd := (single_nd ks false).2
          rw [huw, htt] at hnd
          have hcl : AllClean t := fun k hm => kept_clean false _ ks hkk k (single_mem ks false k (trimK_mem (by rw [htt]; exact hm)))
          have hh := trimK_head (single false ks)
          have hl := trimK_last (single false ks)
          rw [htt] at hh hl
          rw [prep_enc true t hcl hnd.mid hh hl]
          congr 2
          apply List.map_congr_left
          intro k hk
          rw [xR, if_pos rfl, (clean_map (hcl k hk)).1]
end Go.Proofs.YtlbfmapbpbpipaaDoor
