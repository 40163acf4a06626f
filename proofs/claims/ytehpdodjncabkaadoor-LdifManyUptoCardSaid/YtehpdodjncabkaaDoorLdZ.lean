/- ldif.Parse: every text, whatever its length. -/
import Derived.Test.YtehpdodjncabkaaDoorLdY
import Derived.Test.YtehpdodjncabkaaDoorPlainSz
namespace Go.Proofs.YtehpdodjncabkaaDoor
open Go.RowKit Go.Lib

theorem lineB_ge (n v : List UInt8) : n.length + v.length + 1 ≤ (lineB n v).length := by
  unfold lineB
  split
  · simp; omega
  · simp only [List.length_append, b64_length v.length v (Nat.le_refl _)]
    simp
    omega
theorem valsB_ge (n : List UInt8) : ∀ vs : List (List UInt8), vs.length ≤ (valsB n vs).length ∧ ∀ v ∈ vs, n.length + v.length ≤ (valsB n vs).length
  | [] => ⟨by simp, fun v hv => by cases hv⟩
  | v :: vs => by
    obtain ⟨h1, h2⟩ := valsB_ge n vs
    have e : valsB n (v :: vs) = lineB n v ++ valsB n vs := by simp [valsB]
    have h3 := lineB_ge n v
    rw [e, List.length_append]
    refine ⟨by simp; omega, fun u hu => ?_⟩
    rcases List.mem_cons.1 hu with rfl | hu
    · omega
    · have := h2 u hu; omega
theorem attrB_ge : ∀ al : List At, (∀ x ∈ al, x.2 ≠ []) → al.length ≤ (attrB al).length ∧ ∀ x ∈ al, x.1.length ≤ (attrB al).length ∧ x.2.length ≤ (attrB al).length ∧ ∀ v ∈ x.2, v.length ≤ (attrB al).length
  | [], _ => ⟨by simp, fun x hx => by cases hx⟩
  | a :: al, h => by
    obtain ⟨h1, h2⟩ := attrB_ge al (fun x hx => h x (by simp [hx]))
    have e : attrB (a :: al) = valsB a.1 a.2 ++ attrB al := by simp [attrB]
    obtain ⟨h3, h4⟩ := valsB_ge a.1 a.2
    have h5 := List.length_pos_iff.2 (h a (by simp))
    rw [e, List.length_append]
    refine ⟨by simp; omega, fun x hx => ?_⟩
    rcases List.mem_cons.1 hx with rfl | hx
    · obtain ⟨v, hv⟩ := List.exists_mem_of_ne_nil _ (h x (by simp))
      have := h4 v hv
      exact ⟨by omega, by omega, fun u hu => by have := h4 u hu; omega⟩
    · obtain ⟨q1, q2, q3⟩ := h2 x hx
      exact ⟨by omega, by omega, fun u hu => by have := q3 u hu; omega⟩
theorem modB_ge : ∀ ms : List Md, ms.length ≤ (modB ms).length ∧ ∀ x ∈ ms, x.2.1.length ≤ (modB ms).length ∧ x.2.2.length ≤ (modB ms).length ∧ ∀ v ∈ x.2.2, v.length ≤ (modB ms).length
  | [] => ⟨by simp, fun x hx => by cases hx⟩
  | a :: ms => by
    obtain ⟨h1, h2⟩ := modB_ge ms
    have e : modB (a :: ms) = modB1 a ++ modB ms := by simp [modB]
    obtain ⟨h3, h4⟩ := valsB_ge a.2.1 a.2.2
    have h5 := lineB_ge (opW a.1) a.2.1
    have h6 : (modB1 a).length = (lineB (opW a.1) a.2.1).length + (valsB a.2.1 a.2.2).length + 2 := by simp [modB1]; omega
    rw [e, List.length_append]
    refine ⟨by simp; omega, fun x hx => ?_⟩
    rcases List.mem_cons.1 hx with rfl | hx
    · exact ⟨by omega, by omega, fun u hu => by have := h4 u hu; omega⟩
    · obtain ⟨q1, q2, q3⟩ := h2 x hx
      exact ⟨by omega, by omega, fun u hu => by have := q3 u hu; omega⟩
theorem small_of (c : Chg) (h1 : c.time.length ≤ 1000000000 ∧ c.who.length ≤ 1000000000 ∧ c.dn.length ≤ 1000000000 ∧ c.newRdn.length ≤ 1000000000 ∧ c.newSup.length ≤ 1000000000)
    (hA : ∀ x ∈ c.attrs, x.2 ≠ []) (ha : (attrB c.attrs).length ≤ 1000000000) (hm : (modB c.mods).length ≤ 1000000000) (hT : (textC c).length ≤ 1000000000) : Small c := by
  obtain ⟨q1, q2⟩ := attrB_ge c.attrs hA
  obtain ⟨m1, m2⟩ := modB_ge c.mods
  refine ⟨h1, by omega, by omega, fun x hx => ?_, fun x hx => ?_, fun _ => hT⟩
  · obtain ⟨a, b, d⟩ := q2 x hx
    exact ⟨by omega, by omega, fun v hv => by have := d v hv; omega⟩
  · obtain ⟨a, b, d⟩ := m2 x hx
    exact ⟨by omega, by omega, fun v hv => by have := d v hv; omega⟩
theorem addR_ne : ∀ (l : List Pr) (acc : List At), (∀ x ∈ acc, x.2 ≠ []) → ∀ x ∈ addR l acc, x.2 ≠ []
  | [], acc, h => h
  | p :: t, acc, h => by
    unfold addR
    split
    · exact h
    · refine addR_ne t _ (fun x hx => ?_)
      unfold putA at hx
      split at hx
      · split at hx
        · rcases List.mem_append.1 hx with hx | hx
          · exact h x (List.dropLast_subset _ hx)
          · simp at hx; subst hx; simp
        · rcases List.mem_append.1 hx with hx | hx
          · exact h x hx
          · simp at hx; subst hx; simp
      · simp at hx; subst hx; simp
theorem pair_up (x : List UInt8) : wtP (pairB x) ≤ 3 * x.length + 8 := by
  obtain ⟨a, b, c, hcut⟩ : ∃ a b c, cut x [58] = (a, b, c) := ⟨_, _, _, rfl⟩
  have h4 : ((pairV b).getD []).length ≤ b.length := by
    have t1 := trimPrefix_le (trimPrefix b [58]) [32]
    have t2 := trimPrefix_le b [58]
    unfold pairV
    split
    · cases hu : unb (trimPrefix (trimPrefix b [58]) [32]) with
      | none => simp
      | some d =>
        have := (unb_some _ _).1 hu
        have h5 := b64_length d.length d (Nat.le_refl _)
        rw [this] at h5
        simp only [Option.getD_some]
        omega
    · simp only [Option.getD_some]
      omega
  have h3 : a.length ≤ x.length ∧ b.length ≤ x.length := by
    refine ⟨?_, cut_le x hcut⟩
    unfold cut at hcut
    split at hcut
    · simp only [Prod.mk.injEq] at hcut
      rw [← hcut.1]; exact List.length_take_le' _ _
    · simp only [Prod.mk.injEq] at hcut
      rw [← hcut.1]; exact Nat.le_refl _
  have h5 : (pairB x).2.length ≤ x.length := by
    unfold pairB
    rw [hcut]
    simp only
    omega
  have h6 : (pairB x).1.length ≤ x.length := by
    unfold pairB
    rw [hcut]
    simp only
    split
    · simp
    · exact h3.1
  unfold wtP
  omega
theorem pairs_up : ∀ l : List (List UInt8), wtL (l.map pairB) ≤ 3 * (l.map List.length).sum + 8 * l.length
  | [] => by simp [wtL]
  | x :: l => by
    have h1 := pairs_up l
    have h2 := pair_up x
    rw [List.map_cons, wtL_cons]
    simp only [List.map_cons, List.sum_cons, List.length_cons]
    omega
theorem cutL_sum : ∀ s : List UInt8, ((cutL s).map List.length).sum ≤ s.length
  | [] => by simp [cutL]
  | c :: t => by
    have := cutL_sum t
    simp only [cutL]
    split
    · simp; omega
    · split
      · simp
      · rename_i p ps hq
        rw [hq] at this
        simp at this ⊢
        omega
theorem small_record (text : List UInt8) (h : text.length ≤ 65536) : Small (recordR ((cutL text).map pairB)) := by
  obtain ⟨l, hl⟩ : ∃ l, (cutL text).map pairB = l := ⟨_, rfl⟩
  have h1 := pairs_up (cutL text)
  have h2 := cutL_sum text
  have h3 := cutL_len text
  rw [hl] at h1
  have h4 : wtL l ≤ 1000000 := by omega
  rw [hl]
  have ht := record_up l
  have a0 := nxV_up wTime l
  have b0 := nxL_up wTime l
  have a1 := nxV_up wWho (nxL wTime l)
  have b1 := nxL_up wWho (nxL wTime l)
  have a2 := nxV_up wDn (nxL wWho (nxL wTime l))
  have b2 := nxL_up wDn (nxL wWho (nxL wTime l))
  have b3 := nxL_up wType (nxL wDn (nxL wWho (nxL wTime l)))
  obtain ⟨l4, hl4⟩ : ∃ x, nxL wType (nxL wDn (nxL wWho (nxL wTime l))) = x := ⟨_, rfl⟩
  rw [hl4] at b3
  have a5 := nxV_up wRdn l4
  have b5 := nxL_up wRdn l4
  have b6 := nxL_up wOld (nxL wRdn l4)
  have a7 := nxV_up wSup (nxL wOld (nxL wRdn l4))
  have e1 := addR_up l4 []
  have e2 := modsR_up l4.length l4
  have e3 : (attrB []).length = 0 := rfl
  have e4 : (modB []).length = 0 := rfl
  have hn := addR_ne l4 [] (fun x hx => by cases hx)
  obtain ⟨c, hc⟩ : ∃ c, recordR l = c := ⟨_, rfl⟩
  have t0 : c.time = nxV wTime l := by rw [← hc]; rfl
  have t1 : c.who = nxV wWho (nxL wTime l) := by rw [← hc]; rfl
  have t2 : c.dn = nxV wDn (nxL wWho (nxL wTime l)) := by rw [← hc]; rfl
  have t4 : c.attrs = if c.kind = 0 then addR l4 [] else [] := by rw [← hc, ← hl4]; rfl
  have t5 : c.mods = if c.kind = 2 then modsR l4.length l4 else [] := by rw [← hc, ← hl4]; rfl
  have t6 : c.newRdn = if c.kind = 3 then nxV wRdn l4 else [] := by rw [← hc, ← hl4]; rfl
  have t7 : c.newSup = if c.kind = 3 then nxV wSup (nxL wOld (nxL wRdn l4)) else [] := by rw [← hc, ← hl4]; rfl
  rw [hc] at ht ⊢
  refine small_of c ⟨by rw [t0]; omega, by rw [t1]; omega, by rw [t2]; omega, ?_, ?_⟩ ?_ ?_ ?_ (by omega)
  · rw [t6]; split
    · omega
    · simp
  · rw [t7]; split
    · omega
    · simp
  · rw [t4]; split
    · exact hn
    · exact fun x hx => by cases hx
  · rw [t4]; split <;> omega
  · rw [t5]; split <;> omega
theorem Parse_any (text : List UInt8) (w : World) (hl : text.length ≤ 1000000000000) (hE : Env w) :
    Calls Tryd.prog 13 #[.string ⟨text.toArray⟩] w (ParsePost text w) := by
  by_cases h : 65536 < text.length
  · exact Parse_long text w h hl
  · exact Parse_short text w h hE (small_record text (by omega))
end Go.Proofs.YtehpdodjncabkaaDoor
