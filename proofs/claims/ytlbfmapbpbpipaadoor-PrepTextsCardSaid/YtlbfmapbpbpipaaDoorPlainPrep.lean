/- Plain laws of chapter 3: what Prepare computes, character by character. -/
import Derived.Test.YtlbfmapbpbpipaaDoorPlainUtf
namespace Go.Proofs.YtlbfmapbpbpipaaDoor
open Go.Lib

def xR (fold : Bool) (r : Int) : Int := if fold then foldR (mapR r) else mapR r
def kept (fold : Bool) : List Nat → Option (List Int)
  | [] => some []
  | r :: rs => if mapBad r then none else (kept fold rs).map fun ks => if mapStays r then xR fold r :: ks else ks
def single : Bool → List Int → List Int
  | _, [] => []
  | p, k :: ks => if k = 32 ∧ p = true then single true ks else k :: single (decide (k = 32)) ks
def trimKL (ks : List Int) : List Int := ks.dropWhile (· == 32)
def trimKR (ks : List Int) : List Int := (ks.reverse.dropWhile (· == 32)).reverse
def trimK (ks : List Int) : List Int := trimKL (trimKR ks)

/-- A character that is what it becomes. -/
def Clean (k : Int) : Prop := isBlankB k = false ∧ goesB k = false ∧ isRefusedB k = false
def AllClean (ks : List Int) : Prop := ∀ k ∈ ks, Clean k

theorem clean_32 : Clean 32 := by unfold Clean; decide
theorem clean_of_stays (r : Int) (h : mapStays r = true) : Clean (mapR r) := by
  unfold mapStays at h
  unfold mapR
  cases h1 : isBlankB r
  · cases h2 : goesB r
    · cases h3 : isRefusedB r
      · simp only [Bool.false_eq_true, if_false]; exact ⟨h1, h2, h3⟩
      · simp [h1, h2, h3] at h
    · simp [h1, h2] at h
  · simp only [if_true]; exact clean_32
theorem clean_bounds {k : Int} (h : Clean k) : (32 ≤ k ∧ k < 127 ∨ 160 < k ∧ k < 55296 ∨ 63743 < k ∧ k < 983040) ∧ k ≠ 173 := by
  obtain ⟨h1, h2, h3⟩ := h
  simp only [isBlankB, goesB, isRefusedB, decide_eq_false_iff_not] at h1 h2 h3
  omega
theorem clean_valid {k : Int} (h : Clean k) : Lib.validRune k = true := by
  have := clean_bounds h
  simp only [Lib.validRune, decide_eq_true_eq]
  omega
theorem clean_fold {k : Int} (h : Clean k) : Clean (foldR k) := by
  obtain ⟨h1, h2, h3⟩ := h
  simp only [isBlankB, goesB, isRefusedB, decide_eq_false_iff_not] at h1 h2 h3
  unfold Clean foldR
  simp only [isBlankB, goesB, isRefusedB, decide_eq_false_iff_not]
  repeat' split
  all_goals omega
theorem fold_32 (k : Int) : foldR k = 32 ↔ k = 32 := by
  unfold foldR
  repeat' split
  all_goals omega
theorem fold_fold (k : Int) : foldR (foldR k) = foldR k := by
  have h : foldR k = k ∨ (97 ≤ foldR k ∧ foldR k ≤ 122 ∨ 224 ≤ foldR k ∧ foldR k ≤ 254 ∨ foldR k = 223 ∨ 945 ≤ foldR k ∧ foldR k ≤ 969 ∨ 1072 ≤ foldR k ∧ foldR k ≤ 1119 ∨ (256 ≤ foldR k ∧ foldR k ≤ 376) ∧ foldR k % 2 = 1) := by
    generalize hf : foldR k = f
    unfold foldR at hf
    repeat' split at hf
    all_goals omega
  rcases h with h | h
  · rw [h, h]
  · generalize foldR k = f at h ⊢
    unfold foldR
    repeat' split
    all_goals omega
theorem clean_map {k : Int} (h : Clean k) : mapR k = k ∧ mapStays k = true ∧ mapBad k = false := by
  obtain ⟨h1, h2, h3⟩ := h
  simp [mapR, mapStays, mapBad, h1, h2, h3]
theorem clean_x {r : Int} (fold : Bool) (h : mapStays r = true) : Clean (xR fold r) := by
  cases fold
  · rw [xR, if_neg (by simp)]; exact clean_of_stays r h
  · rw [xR, if_pos rfl]; exact clean_fold (clean_of_stays r h)
theorem x_32 (fold : Bool) (r : Int) : xR fold r = 32 ↔ mapR r = 32 := by
  cases fold
  · rw [xR, if_neg (by simp)]
  · rw [xR, if_pos rfl]; exact fold_32 _
theorem allClean_valid {ks : List Int} (h : AllClean ks) : AllValid ks := fun k hk => clean_valid (h k hk)

theorem encR_32 : encR 32 = [32] := by decide
/-- The bytes of a character that is no blank are no blanks. -/
theorem encR_noblank (k : Int) (h : Lib.validRune k = true) (hk : k ≠ 32) : ∀ b ∈ encR k, b ≠ 32 := by
  have hb := validRune_bounds k h
  intro b hm hb32
  subst hb32
  have h32 : ∀ n : Nat, (32 : UInt8) = UInt8.ofNat n → n % 256 = 32 := fun n hn => by have := congrArg UInt8.toNat hn; rw [u8mod] at this; exact this.symm
  rcases Int.lt_or_le k 128 with h1 | h1
  · rw [encR_one _ h h1] at hm
    simp only [List.mem_singleton] at hm
    have := h32 _ hm
    omega
  rcases Int.lt_or_le k 2048 with h2 | h2
  · rw [encR_two _ h h1 h2] at hm
    simp only [List.mem_cons, List.not_mem_nil, or_false] at hm
    rcases hm with hm | hm <;> (have := h32 _ hm; omega)
  rcases Int.lt_or_le k 65536 with h3 | h3
  · rw [encR_three _ h h2 h3] at hm
    simp only [List.mem_cons, List.not_mem_nil, or_false] at hm
    rcases hm with hm | hm | hm <;> (have := h32 _ hm; omega)
  · rw [encR_four _ h h3] at hm
    simp only [List.mem_cons, List.not_mem_nil, or_false] at hm
    rcases hm with hm | hm | hm | hm <;> (have := h32 _ hm; omega)
theorem encR_last (k : Int) (h : Lib.validRune k = true) : (encR k).getLast? = some 32 ↔ k = 32 := by
  constructor
  · intro hl
    by_cases hk : k = 32
    · exact hk
    · exact absurd rfl (encR_noblank k h hk 32 (List.mem_of_getLast? hl))
  · rintro rfl; decide
theorem enc_last (ks : List Int) (h : AllValid ks) : (encAll ks).getLast? = some 32 ↔ ks.getLast? = some 32 := by
  rcases List.eq_nil_or_concat ks with rfl | ⟨ks', k, rfl⟩
  · simp [encAll]
  · rw [List.concat_eq_append] at h ⊢
    rw [encAll_append]
    have : encAll [k] = encR k := by simp [encAll]
    obtain ⟨b, hb⟩ : ∃ b, (encR k).getLast? = some b := by
      cases hl : (encR k).getLast? with
      | none => exact absurd (List.getLast?_eq_none_iff.1 hl) (encR_ne k)
      | some b => exact ⟨b, rfl⟩
    rw [this, List.getLast?_append, hb, Option.some_or, ← hb, encR_last k (h k (by simp))]
    simp

theorem mrun_kept (fold : Bool) : ∀ (rs : List Nat) (ks0 : List Int), AllValid ks0 →
    mrun fold (encAll ks0) rs = (kept fold rs).map fun ks => encAll (ks0 ++ single (decide (ks0.getLast? = some 32)) ks)
  | [], ks0, _ => by simp [mrun, kept, single]
  | r :: rs, ks0, h => by
    rw [mrun, kept]
    by_cases hb : mapBad r = true
    · rw [if_pos hb, if_pos hb]; rfl
    · rw [if_neg hb, if_neg hb]
      by_cases hs : mapStays (r : Int) = true
      · have hc := clean_x fold hs
        have hv := clean_valid hc
        rw [mstep, if_neg (by rw [hs]; simp)]
        simp only [hs, if_true]
        show mrun fold (if mapR (r : Int) = 32 ∧ (encAll ks0).getLast? = some 32 then encAll ks0 else encAll ks0 ++ putR (xR fold r)) rs = _
        have hx := x_32 fold r
        have hl0 := enc_last ks0 h
        generalize xR fold r = x at hv hx
        simp only [hl0, ← hx]
        clear hl0 hx
        by_cases hd : x = 32 ∧ ks0.getLast? = some 32
        · rw [if_pos hd, mrun_kept fold rs ks0 h]
          obtain ⟨rfl, hl⟩ := hd
          cases kept fold rs with
          | none => rfl
          | some ks => simp [single, hl]
        · rw [if_neg hd]
          have e : encAll ks0 ++ putR x = encAll (ks0 ++ [x]) := by simp [encAll, putR, hv]
          rw [e, mrun_kept fold rs (ks0 ++ [x]) (fun k hk => by
            rcases List.mem_append.1 hk with hk | hk
            · exact h k hk
            · simp at hk; subst hk; exact hv)]
          cases kept fold rs with
          | none => rfl
          | some ks =>
            simp only [Option.map_some, Option.some.injEq]
            rw [single, if_neg (by simpa using hd)]
            simp
      · rw [mstep, if_pos (by simpa using hs), mrun_kept fold rs ks0 h]
        simp only [hs, Bool.false_eq_true, if_false]
        cases kept fold rs <;> rfl

theorem mappedL_spec (l : List UInt8) (fold : Bool) : mappedL l fold = if validD l then (kept fold (runes l)).map (fun ks => encAll (single false ks)) else none := by
  unfold mappedL
  split
  · have := mrun_kept fold (runes l) [] (fun _ h => by simp at h)
    simpa [encAll_nil] using this
  · rfl

theorem kept_clean (fold : Bool) : ∀ (rs : List Nat) (ks : List Int), kept fold rs = some ks → AllClean ks
  | [], ks, h => by simp only [kept, Option.some.injEq] at h; subst h; intro k hk; simp at hk
  | r :: rs, ks, h => by
    rw [kept] at h
    split at h
    · cases h
    · cases hk : kept fold rs with
      | none => rw [hk] at h; cases h
      | some ks' =>
        rw [hk] at h
        simp only [Option.map_some, Option.some.injEq] at h
        have ih := kept_clean fold rs ks' hk
        subst h
        intro k hk
        split at hk
        · rename_i hs
          rcases List.mem_cons.1 hk with rfl | hk
          · exact clean_x fold hs
          · exact ih k hk
        · exact ih k hk
theorem single_mem : ∀ (ks : List Int) (p : Bool) (k : Int), k ∈ single p ks → k ∈ ks
  | [], _, _, h => by simp [single] at h
  | a :: ks, p, k, h => by
    rw [single] at h
    split at h
    · exact List.mem_cons_of_mem _ (single_mem ks true k h)
    · rcases List.mem_cons.1 h with rfl | h
      · exact List.mem_cons_self
      · exact List.mem_cons_of_mem _ (single_mem ks _ k h)
theorem trimKL_mem {ks : List Int} {k : Int} (h : k ∈ trimKL ks) : k ∈ ks := (List.dropWhile_sublist _).subset h
theorem trimKR_mem {ks : List Int} {k : Int} (h : k ∈ trimKR ks) : k ∈ ks := by
  have := (List.dropWhile_sublist (l := ks.reverse) (· == 32)).subset (List.mem_reverse.1 h)
  exact List.mem_reverse.1 this
theorem trimK_mem {ks : List Int} {k : Int} (h : k ∈ trimK ks) : k ∈ ks := trimKR_mem (trimKL_mem h)

theorem trimL_enc : ∀ (ks : List Int), AllValid ks → trimLeftB (encAll ks) 32 = encAll (trimKL ks)
  | [], _ => rfl
  | k :: ks, h => by
    unfold trimLeftB trimKL
    by_cases hk : k = 32
    · subst hk
      have ih := trimL_enc ks (fun x hx => h x (by simp [hx]))
      unfold trimLeftB trimKL at ih
      rw [encAll_cons, encR_32]
      simp only [List.cons_append, List.nil_append, List.dropWhile_cons, beq_self_eq_true, if_true]
      exact ih
    · rw [List.dropWhile_cons_of_neg (by simpa using hk), encAll_cons]
      obtain ⟨b, t, hbt⟩ : ∃ b t, encR k = b :: t := by
        cases he : encR k with
        | nil => exact absurd he (encR_ne k)
        | cons b t => exact ⟨b, t, rfl⟩
      have hb := encR_noblank k (h k (by simp)) hk b (by rw [hbt]; simp)
      rw [hbt, List.cons_append, List.dropWhile_cons_of_neg (by simpa using hb)]
theorem trimR_snoc (l : List UInt8) : trimRightB (l ++ [32]) 32 = trimRightB l 32 := by
  unfold trimRightB; simp
theorem trimR_stay (l e : List UInt8) (he : e ≠ []) (hl : ∀ b ∈ e, b ≠ 32) : trimRightB (l ++ e) 32 = l ++ e := by
  rcases List.eq_nil_or_concat e with rfl | ⟨e', b, rfl⟩
  · exact absurd rfl he
  · unfold trimRightB
    have hb := hl b (by simp)
    rw [List.reverse_append, List.concat_eq_append, List.reverse_append]
    simp [hb]
theorem trimR_enc : ∀ (ks : List Int), AllValid ks → trimRightB (encAll ks.reverse) 32 = encAll ((ks.dropWhile (· == 32)).reverse)
  | [], _ => rfl
  | k :: ks, h => by
    have e : encAll (k :: ks).reverse = encAll ks.reverse ++ encR k := by rw [List.reverse_cons, encAll_append]; simp [encAll]
    rw [e]
    by_cases hk : k = 32
    · subst hk
      rw [encR_32, trimR_snoc, trimR_enc ks (fun x hx => h x (by simp [hx]))]
      simp
    · rw [List.dropWhile_cons_of_neg (by simpa using hk), trimR_stay _ _ (encR_ne k) (encR_noblank k (h k (by simp)) hk), ← e]
theorem trim_enc (ks : List Int) (h : AllValid ks) : trimB (encAll ks) 32 = encAll (trimK ks) := by
  unfold trimB trimK
  have := trimR_enc ks.reverse (fun k hk => h k (List.mem_reverse.1 hk))
  rw [List.reverse_reverse] at this
  rw [this]
  exact trimL_enc _ (fun k hk => h k (trimKR_mem hk))

def finL (l : List UInt8) (t : List Int) : List UInt8 := if t = [] ∧ l ≠ [] then [32] else encAll t
/-- WHAT Prepare COMPUTES, character by character. -/
theorem prepL_spec (l : List UInt8) (fold : Bool) : prepL l fold = if validD l then (kept fold (runes l)).map (fun ks => finL l (trimK (single false ks))) else none := by
  unfold prepL
  rw [mappedL_spec]
  cases hv : validD l
  · simp
  · simp only [if_true]
    cases hk : kept fold (runes l) with
    | none => rfl
    | some ks =>
      simp only [Option.map_some]
      have hc := kept_clean fold _ ks hk
      rw [trim_enc _ (fun k hm => clean_valid (hc k (single_mem ks false k hm)))]
      unfold finL
      simp only [encAll_eq_nil]
      split <;> rfl
end Go.Proofs.YtlbfmapbpbpipaaDoor
