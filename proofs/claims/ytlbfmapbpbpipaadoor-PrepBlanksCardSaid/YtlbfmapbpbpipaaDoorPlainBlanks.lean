/- Plain laws of chapter 3: blanks at the ends of a text, and doubled within, say nothing. -/
import Derived.Test.YtlbfmapbpbpipaaDoorPlainTwice
import Derived.Lib.SpaceUEq
namespace Go.Proofs.YtlbfmapbpbpipaaDoor
open Go.Lib

def contB (b : UInt8) : Prop := b.toNat / 64 = 2
/-- Two ends of a text that no character which begins ahead of them can tell apart. -/
def Agr : List UInt8 → List UInt8 → Prop
  | [], q => (q.getD 0 0).toNat / 64 ≠ 2
  | c :: p, q => if c.toNat / 64 = 2 then ∃ q', q = c :: q' ∧ Agr p q' else (q.getD 0 0).toNat / 64 ≠ 2

theorem decodeN_no1 (n b0 b1 b2 b3 : Nat) (h : b1 / 64 ≠ 2) : decodeN n b0 b1 b2 b3 = if b0 < 128 then (b0, 1) else (65533, 1) := by
  by_cases h0 : b0 < 128
  · rw [decodeN_ascii _ _ _ _ _ h0, if_pos h0]
  · rw [if_neg h0, decodeN_alone _ _ _ _ _ (by omega) (.inr h)]
theorem decodeN_no2 (n m b0 b1 b2 b3 c2 c3 : Nat) (hn : 1 < n) (hm : 1 < m) (h2 : b2 / 64 ≠ 2) (k2 : c2 / 64 ≠ 2) : decodeN n b0 b1 b2 b3 = decodeN m b0 b1 c2 c3 := by
  unfold decodeN
  simp only [hn, hm, h2, k2, and_false, false_and, if_false]
theorem decodeN_no3 (n m b0 b1 b2 b3 c3 : Nat) (hn : 2 < n) (hm : 2 < m) (h3 : b3 / 64 ≠ 2) (k3 : c3 / 64 ≠ 2) : decodeN n b0 b1 b2 b3 = decodeN m b0 b1 b2 c3 := by
  have hn1 : 1 < n := by omega
  have hm1 : 1 < m := by omega
  unfold decodeN
  simp only [hn, hm, hn1, hm1, h3, k3, and_false, if_false]
theorem decodeN_all (n m b0 b1 b2 b3 : Nat) (hn : 3 < n) (hm : 3 < m) : decodeN n b0 b1 b2 b3 = decodeN m b0 b1 b2 b3 := by
  have hn1 : 1 < n := by omega
  have hm1 : 1 < m := by omega
  have hn2 : 2 < n := by omega
  have hm2 : 2 < m := by omega
  unfold decodeN
  simp only [hn, hm, hn1, hm1, hn2, hm2]

theorem decode_agr (b : UInt8) (p q : List UInt8) (h : Agr p q) : decodeL (b :: p) = decodeL (b :: q) := by
  rw [decodeL_N, decodeL_N]
  simp only [List.getD_cons_zero, List.getD_cons_succ, List.length_cons]
  cases p with
  | nil =>
    rw [decodeN_no1 _ _ _ _ _ (by decide), decodeN_no1 _ _ _ _ _ h]
  | cons c p =>
    unfold Agr at h
    split at h
    · obtain ⟨q, rfl, h⟩ := h
      simp only [List.getD_cons_zero, List.getD_cons_succ, List.length_cons]
      cases p with
      | nil => exact decodeN_no2 _ _ _ _ _ _ _ _ (by omega) (by omega) (by decide) h
      | cons c2 p =>
        unfold Agr at h
        split at h
        · obtain ⟨q, rfl, h⟩ := h
          simp only [List.getD_cons_zero, List.getD_cons_succ, List.length_cons]
          cases p with
          | nil => exact decodeN_no3 _ _ _ _ _ _ _ (by omega) (by omega) (by decide) h
          | cons c3 p =>
            unfold Agr at h
            split at h
            · obtain ⟨q, rfl, h⟩ := h
              simp only [List.getD_cons_zero, List.length_cons]
              exact decodeN_all _ _ _ _ _ _ (by omega) (by omega)
            · rename_i hc
              exact decodeN_no3 _ _ _ _ _ _ _ (by simp only [List.length_cons]; omega) (by omega) (by simpa using hc) h
        · rename_i hc
          exact decodeN_no2 _ _ _ _ _ _ _ _ (by simp only [List.length_cons]; omega) (by omega) (by simpa using hc) h
    · rename_i hc
      rw [decodeN_no1 _ _ _ _ _ (by simpa using hc), decodeN_no1 _ _ _ _ _ h]

def dbl (l : List UInt8) : List UInt8 := l.flatMap fun b => if b = 32 then [32, 9, 32] else [b]
theorem dbl_cons (b : UInt8) (l : List UInt8) : dbl (b :: l) = (if b = 32 then [32, 9, 32] else [b]) ++ dbl l := by simp [dbl]
theorem dbl_snoc (l : List UInt8) (b : UInt8) : dbl (l ++ [b]) = dbl l ++ (if b = 32 then [32, 9, 32] else [b]) := by simp [dbl]
def Asc (t : List UInt8) : Prop := ∀ b ∈ t, b.toNat < 128

theorem agr_dbl (t : List UInt8) (ht : Asc t) : ∀ l : List UInt8, Agr l (dbl l ++ t)
  | [] => by
    show ((dbl [] ++ t).getD 0 0).toNat / 64 ≠ 2
    cases t with
    | nil => decide
    | cons b t => have := ht b (by simp); simp [dbl]; omega
  | c :: l => by
    unfold Agr
    split
    · rename_i hc
      have h32 : c ≠ 32 := by rintro rfl; revert hc; decide
      exact ⟨dbl l ++ t, by rw [dbl_cons, if_neg h32]; rfl, agr_dbl t ht l⟩
    · rename_i hc
      rw [dbl_cons]
      split
      · show (32 : UInt8).toNat / 64 ≠ 2; decide
      · simpa using hc

theorem runes_asc (b : UInt8) (l : List UInt8) (h : b.toNat < 128) : runes (b :: l) = b.toNat :: runes l := by
  rw [runes_step _ (by simp), decodeL_N]
  simp only [List.getD_cons_zero]
  rw [decodeN_ascii _ _ _ _ _ h]
  rfl
theorem runes_ascs : ∀ (t l : List UInt8), Asc t → runes (t ++ l) = t.map UInt8.toNat ++ runes l
  | [], _, _ => rfl
  | b :: t, l, h => by
    rw [List.cons_append, runes_asc b _ (h b (by simp)), runes_ascs t l (fun x hx => h x (by simp [hx]))]
    rfl
theorem valid_ascs : ∀ (t l : List UInt8), Asc t → validD (t ++ l) = validD l
  | [], _, _ => rfl
  | b :: t, l, h => by
    rw [List.cons_append, validD_cons b _ (h b (by simp)), valid_ascs t l (fun x hx => h x (by simp [hx]))]

def expand (rs : List Nat) : List Nat := rs.flatMap fun r => if r = 32 then [32, 9, 32] else [r]
theorem expand_cons (r : Nat) (rs : List Nat) : expand (r :: rs) = (if r = 32 then [32, 9, 32] else [r]) ++ expand rs := by simp [expand]

/-- Bytes that are no blanks are not doubled. -/
theorem dbl_drop (t : List UInt8) : ∀ (k : Nat) (l : List UInt8), k ≤ l.length → (∀ j, j < k → (l.getD j 0).toNat / 64 = 2) → (dbl l ++ t).drop k = dbl (l.drop k) ++ t
  | 0, _, _, _ => rfl
  | k + 1, [], h, _ => by simp at h
  | k + 1, b :: l, h, hc => by
    have h0 := hc 0 (by omega)
    rw [List.getD_cons_zero] at h0
    have h32 : b ≠ 32 := by intro hb; rw [hb] at h0; revert h0; decide
    rw [dbl_cons, if_neg h32]
    simp only [List.cons_append, List.nil_append, List.drop_succ_cons]
    exact dbl_drop t k l (by simpa using h) (fun j hj => by simpa using hc (j + 1) (by omega))

theorem dbl_text (t : List UInt8) (ht : Asc t) : ∀ (n : Nat) (l : List UInt8), l.length ≤ n → validD (dbl l ++ t) = validD l ∧ (validD l = true → runes (dbl l ++ t) = expand (runes l) ++ t.map UInt8.toNat)
  | n, [], _ => by
    refine ⟨?_, fun _ => ?_⟩
    · have := valid_ascs t [] ht; simpa [dbl] using this
    · have := runes_ascs t [] ht; simpa [dbl, expand, runes_nil] using this
  | 0, b :: l, h => by simp at h
  | n + 1, b :: l, h => by
    have hl : l.length ≤ n := by simpa using h
    by_cases h32 : b = 32
    · subst h32
      obtain ⟨i1, i2⟩ := dbl_text t ht n l hl
      have hd : dbl (32 :: l) ++ t = [32, 9, 32] ++ (dbl l ++ t) := by rw [dbl_cons, if_pos rfl]; simp
      have ha : Asc [32, 9, 32] := by intro x hx; simp at hx; rcases hx with rfl | rfl | rfl <;> decide
      rw [hd, valid_ascs _ _ ha, runes_ascs _ _ ha, validD_cons 32 l (by decide), runes_asc 32 l (by decide), expand_cons]
      refine ⟨i1, fun hv => ?_⟩
      rw [i2 hv]
      rfl
    · have hd : dbl (b :: l) ++ t = b :: (dbl l ++ t) := by rw [dbl_cons, if_neg h32]; rfl
      by_cases ha : b.toNat < 128
      · obtain ⟨i1, i2⟩ := dbl_text t ht n l hl
        rw [hd, validD_cons b _ ha, runes_asc b _ ha, validD_cons b l ha, runes_asc b l ha, expand_cons]
        refine ⟨i1, fun hv => ?_⟩
        rw [i2 hv, if_neg (by intro hb; apply h32; exact UInt8.toNat_inj.1 hb)]
        rfl
      · have hdec := decode_agr b l (dbl l ++ t) (agr_dbl t ht l)
        rw [hd, validD_step _ (by simp), validD_step (b :: l) (by simp), runes_step _ (by simp), runes_step (b :: l) (by simp), ← hdec]
        by_cases hb : (decodeL (b :: l)).1 = 65533 ∧ (decodeL (b :: l)).2 = 1
        · rw [if_pos hb, if_pos hb]
          exact ⟨rfl, fun h => by cases h⟩
        · rw [if_neg hb, if_neg hb]
          have hp := decode_pos (b :: l) (by simp)
          have hcs := decodeN_conts (b :: l).length ((b :: l).getD 0 0).toNat ((b :: l).getD 1 0).toNat ((b :: l).getD 2 0).toNat ((b :: l).getD 3 0).toNat
          have hca := decodeN_cases (b :: l).length ((b :: l).getD 0 0).toNat ((b :: l).getD 1 0).toNat ((b :: l).getD 2 0).toNat ((b :: l).getD 3 0).toNat
          rw [← decodeL_N] at hcs hca
          simp only [List.getD_cons_zero, List.getD_cons_succ] at hcs hca
          generalize decodeL (b :: l) = d at hb hp hcs hca
          obtain ⟨r, k⟩ := d
          simp only [List.length_cons] at hb hp hcs hca
          obtain ⟨k, rfl⟩ : ∃ k', k = k' + 1 := ⟨k - 1, by omega⟩
          have hr : r ≠ 32 := by
            rcases hca with h1 | h1 | h1 | h1 | h1
            · omega
            · have := congrArg Prod.fst h1.2.2.2.2; simp only at this; omega
            · have := congrArg Prod.fst h1.2.2.2.2.2; simp only at this; omega
            · omega
            · have := congrArg Prod.fst h1; simp only at this; omega
          have hdr : (b :: (dbl l ++ t)).drop (k + 1) = dbl ((b :: l).drop (k + 1)) ++ t := by
            rw [List.drop_succ_cons, List.drop_succ_cons]
            refine dbl_drop t k l (by omega) (fun j hj => ?_)
            have : j = 0 ∨ j = 1 ∨ j = 2 := by omega
            rcases this with rfl | rfl | rfl
            · exact (hcs.1 (by omega)).1
            · exact (hcs.2.1 (by omega)).1
            · exact (hcs.2.2.1 (by omega)).1
          simp only
          rw [hdr]
          obtain ⟨i1, i2⟩ := dbl_text t ht n ((b :: l).drop (k + 1)) (by rw [List.drop_succ_cons, List.length_drop]; omega)
          refine ⟨i1, fun hv => ?_⟩
          rw [i2 hv, expand_cons, if_neg hr]
          rfl

theorem kept_append (fold : Bool) : ∀ (a b : List Nat), kept fold (a ++ b) = (kept fold a).bind fun x => (kept fold b).map (x ++ ·)
  | [], b => by simp [kept]
  | r :: a, b => by
    rw [List.cons_append, kept, kept, kept_append fold a b]
    split
    · rfl
    · cases kept fold a with
      | none => rfl
      | some x =>
        simp only [Option.bind_some, Option.map_some]
        cases kept fold b with
        | none => rfl
        | some y =>
          simp only [Option.map_some, Option.some.injEq]
          split <;> rfl
theorem xR_blank (fold : Bool) (r : Nat) (h : r = 32 ∨ r = 9 ∨ r = 10 ∨ r = 13) : kept fold [r] = some [32] := by
  rcases h with rfl | rfl | rfl | rfl <;> cases fold <;> decide
theorem kept_blanks (fold : Bool) : ∀ (rs : List Nat), (∀ r ∈ rs, r = 32 ∨ r = 9 ∨ r = 10 ∨ r = 13) → kept fold rs = some (List.replicate rs.length 32)
  | [], _ => rfl
  | r :: rs, h => by
    have e : r :: rs = [r] ++ rs := rfl
    rw [e, kept_append, xR_blank fold r (h r (by simp)), kept_blanks fold rs (fun x hx => h x (by simp [hx]))]
    simp [List.replicate_succ]
theorem kept_one (fold : Bool) (r : Nat) (rs : List Nat) : kept fold (r :: rs) = (kept fold [r]).bind fun x => (kept fold rs).map (x ++ ·) := kept_append fold [r] rs
theorem single_append : ∀ (a b : List Int) (p : Bool), ∃ q, single p (a ++ b) = single p a ++ single q b ∧ ∀ c, single p (a ++ c) = single p a ++ single q c
  | [], b, p => ⟨p, rfl, fun _ => rfl⟩
  | k :: a, b, p => by
    by_cases h : k = 32 ∧ p = true
    · obtain ⟨q, h1, h2⟩ := single_append a b true
      refine ⟨q, ?_, fun c => ?_⟩
      · rw [List.cons_append, single, if_pos h, single, if_pos h, h1]
      · rw [List.cons_append, single, if_pos h, single, if_pos h, h2]
    · obtain ⟨q, h1, h2⟩ := single_append a b (decide (k = 32))
      refine ⟨q, ?_, fun c => ?_⟩
      · rw [List.cons_append, single, if_neg h, single, if_neg h, h1]; rfl
      · rw [List.cons_append, single, if_neg h, single, if_neg h, h2]; rfl
theorem single_32s (p : Bool) (ks : List Int) : single p (32 :: 32 :: ks) = single p (32 :: ks) := by
  cases p <;> simp [single]
theorem kept_expand (fold : Bool) : ∀ (rs : List Nat), (kept fold rs = none → kept fold (expand rs) = none) ∧ ∀ ks, kept fold rs = some ks → ∃ ks', kept fold (expand rs) = some ks' ∧ ∀ p, single p ks' = single p ks
  | [] => ⟨fun h => h, fun ks h => ⟨ks, h, fun _ => rfl⟩⟩
  | r :: rs => by
    obtain ⟨i1, i2⟩ := kept_expand fold rs
    rw [expand_cons, kept_append, kept_one]
    have hx : kept fold (if r = 32 then [32, 9, 32] else [r]) = if r = 32 then some [32, 32, 32] else kept fold [r] := by
      split
      · cases fold <;> decide
      · rfl
    rw [hx]
    by_cases h32 : r = 32
    · subst h32
      rw [if_pos rfl, xR_blank fold 32 (.inl rfl)]
      simp only [Option.bind_some]
      refine ⟨fun h => ?_, fun ks h => ?_⟩
      · rw [i1 (by simpa using h)]; rfl
      · cases hk : kept fold rs with
        | none => rw [hk] at h; cases h
        | some k =>
          rw [hk] at h
          simp only [Option.map_some, Option.some.injEq] at h
          subst h
          obtain ⟨ks', e1, e2⟩ := i2 k hk
          refine ⟨_, by rw [e1]; rfl, fun p => ?_⟩
          show single p (32 :: 32 :: 32 :: ks') = single p (32 :: k)
          rw [single_32s, single_32s]
          rw [single, single, e2, e2]
    · rw [if_neg h32]
      cases kept fold [r] with
      | none => exact ⟨fun _ => rfl, fun ks h => by cases h⟩
      | some x =>
        simp only [Option.bind_some]
        refine ⟨fun h => ?_, fun ks h => ?_⟩
        · rw [i1 (by simpa using h)]; rfl
        · cases hk : kept fold rs with
          | none => rw [hk] at h; cases h
          | some k =>
            rw [hk] at h
            simp only [Option.map_some, Option.some.injEq] at h
            subst h
            obtain ⟨ks', e1, e2⟩ := i2 k hk
            refine ⟨_, by rw [e1]; rfl, fun p => ?_⟩
            obtain ⟨q, _, h2⟩ := single_append x ks' p
            rw [h2, h2, e2]

theorem trimK_cons (x : List Int) : trimK (32 :: x) = trimK x := by
  unfold trimK trimKL trimKR
  rw [List.reverse_cons, List.dropWhile_append]
  split
  · rename_i h
    have : x.reverse.dropWhile (· == 32) = [] := by simpa using h
    rw [this]
    rfl
  · simp
theorem trimK_snoc (x : List Int) : trimK (x ++ [32]) = trimK x := by
  unfold trimK trimKL trimKR
  simp
theorem trimK_flag (ks : List Int) (p : Bool) : trimK (single p ks) = trimK (single false ks) := by
  cases p
  · rfl
  · cases ks with
    | nil => rfl
    | cons k ks =>
      rw [single, single]
      by_cases hk : k = 32
      · subst hk
        simp [trimK_cons]
      · simp [hk]
theorem norm_cons (ks : List Int) (p : Bool) : trimK (single p (32 :: ks)) = trimK (single false ks) := by
  rw [trimK_flag, single, if_neg (by simp), trimK_cons, trimK_flag]
theorem norm_snoc (ks : List Int) : trimK (single false (ks ++ [32])) = trimK (single false ks) := by
  obtain ⟨q, h, _⟩ := single_append ks [32] false
  rw [h]
  cases q
  · rw [show single false [32] = [32] by decide, trimK_snoc]
  · rw [show single true [32] = [] by decide, List.append_nil]
theorem norm_reps (ks : List Int) (m n : Nat) : trimK (single false (List.replicate m 32 ++ ks ++ List.replicate n 32)) = trimK (single false ks) := by
  induction n with
  | zero =>
    simp only [List.replicate_zero, List.append_nil]
    induction m with
    | zero => rfl
    | succ m ih => rw [List.replicate_succ, List.cons_append, norm_cons, ih]
  | succ n ih => rw [List.replicate_succ', ← List.append_assoc, norm_snoc, ih]

theorem prep_blanks (l h t : List UInt8) (fold : Bool) (hl : l ≠ []) (hh : ∀ b ∈ h, b = 32 ∨ b = 9 ∨ b = 10) (ht : ∀ b ∈ t, b = 32 ∨ b = 9 ∨ b = 13) : prepL (h ++ dbl l ++ t) fold = prepL l fold := by
  have ha : Asc h := fun b hb => by rcases hh b hb with rfl | rfl | rfl <;> decide
  have hb : Asc t := fun b hb => by rcases ht b hb with rfl | rfl | rfl <;> decide
  obtain ⟨i1, i2⟩ := dbl_text t hb l.length l (Nat.le_refl _)
  rw [prepL_spec, prepL_spec, List.append_assoc, valid_ascs h _ ha, i1]
  cases hv : validD l
  · rfl
  · simp only [if_true]
    rw [runes_ascs h _ ha, i2 hv, kept_append, kept_append, kept_blanks fold (h.map UInt8.toNat) (fun r hr => by
      obtain ⟨b, hb, rfl⟩ := List.mem_map.1 hr
      rcases hh b hb with rfl | rfl | rfl <;> decide), kept_blanks fold (t.map UInt8.toNat) (fun r hr => by
      obtain ⟨b, hb, rfl⟩ := List.mem_map.1 hr
      rcases ht b hb with rfl | rfl | rfl <;> decide)]
    obtain ⟨j1, j2⟩ := kept_expand fold (runes l)
    cases hk : kept fold (runes l) with
    | none => rw [j1 hk]; rfl
    | some ks =>
      obtain ⟨ks', e1, e2⟩ := j2 ks hk
      rw [e1]
      simp only [Option.bind_some, Option.map_some, Option.some.injEq]
      rw [← List.append_assoc (List.replicate _ 32), norm_reps, e2]
      unfold finL
      have hne : h ++ (dbl l ++ t) ≠ [] := by
        cases l with
        | nil => exact absurd rfl hl
        | cons b l => rw [dbl_cons]; split <;> simp
      simp only [hne, hl, ne_eq, not_false_eq_true]
end Go.Proofs.YtlbfmapbpbpipaaDoor
