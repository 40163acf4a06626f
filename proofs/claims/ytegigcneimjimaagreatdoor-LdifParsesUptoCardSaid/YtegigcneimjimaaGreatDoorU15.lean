/- PlainSzL, LdZ, PlainAll, LwF. -/
import Derived.Lib.IndexLaws
import Derived.Deep.AppendLies
import Derived.Test.YtegigcneimjimaaGreatDoorU10
import Derived.Test.YtegigcneimjimaaGreatDoorU14
namespace Go.Proofs.YtegigcneimjimaaGreatDoor
open Go.Lib
open Go.RowKit Go.Lib
set_option maxRecDepth 100000
set_option maxHeartbeats 16000000
theorem lineB_up (n v : List UInt8) : (lineB n v).length ≤ n.length + 2 * v.length + 8 := by
  unfold lineB
  split
  · simp; omega
  · simp only [List.length_append, b64_length v.length v (Nat.le_refl _)]
    simp
    omega
def wtP (p : Pr) : Nat := p.1.length + 2 * p.2.length + 8
def wtL (l : List Pr) : Nat := (l.map wtP).sum
theorem wtL_cons (p : Pr) (l : List Pr) : wtL (p :: l) = wtP p + wtL l := by simp [wtL]
theorem wtL_app (a b : List Pr) : wtL (a ++ b) = wtL a + wtL b := by simp [wtL]
theorem valsB_up (n : List UInt8) : ∀ vs : List (List UInt8), (valsB n vs).length ≤ wtL (vs.map fun v => (n, v))
  | [] => by simp [valsB, wtL]
  | v :: vs => by
    have ih := valsB_up n vs
    have e : valsB n (v :: vs) = lineB n v ++ valsB n vs := by simp [valsB]
    rw [e, List.length_append, List.map_cons, wtL_cons]
    have := lineB_up n v
    simp only [wtP]
    omega
theorem attrB_app (a b : List At) : attrB (a ++ b) = attrB a ++ attrB b := by simp [attrB]
theorem putA_up (p : Pr) (acc : List At) : (attrB (putA p acc)).length ≤ (attrB acc).length + wtP p := by
  have h1 := lineB_up p.1 p.2
  have e1 : attrB [(p.1, [p.2])] = lineB p.1 p.2 := by simp [attrB, valsB]
  unfold putA
  split
  · rename_i a ha
    obtain ⟨init, hi⟩ := List.getLast?_eq_some_iff.1 ha
    subst hi
    split
    · rename_i hp
      have e2 : attrB [(a.1, a.2 ++ [p.2])] = attrB [a] ++ lineB p.1 p.2 := by simp [attrB, valsB, hp]
      rw [List.dropLast_concat, attrB_app, attrB_app, e2]
      simp only [List.length_append, wtP]
      omega
    · rw [attrB_app, e1]
      simp only [List.length_append, wtP]
      omega
  · rename_i ha
    have : acc = [] := by simpa using ha
    subst this
    rw [e1]
    simp only [wtP]
    omega
theorem addR_up : ∀ (l : List Pr) (acc : List At), (attrB (addR l acc)).length ≤ (attrB acc).length + wtL l
  | [], acc => by simp [addR]
  | p :: t, acc => by
    unfold addR
    split
    · omega
    · have h1 := addR_up t (putA p acc)
      have h2 := putA_up p acc
      rw [wtL_cons]
      omega
theorem valsR_eq (t : List UInt8) : ∀ l : List Pr, (valsR t l).map (fun v => (t, v)) ++ leftR t l = l
  | [] => rfl
  | q :: r => by
    have ih := valsR_eq t r
    unfold valsR leftR at *
    by_cases hq : q.1 = t
    · have hb : (q.1 == t) = true := by simpa using hq
      simp only [List.takeWhile_cons, List.dropWhile_cons, hb, if_true, List.map_cons, List.cons_append, ih]
      rw [← hq]
    · have hb : (q.1 == t) = false := by simpa using hq
      simp [hb]
theorem nxL_up (n : List UInt8) (l : List Pr) : wtL (nxL n l) ≤ wtL l := by
  cases l with
  | nil => exact Nat.le_refl _
  | cons p t =>
    simp only [nxL]
    split
    · rw [wtL_cons]; omega
    · exact Nat.le_refl _
theorem nxV_up (n : List UInt8) (l : List Pr) : 2 * (nxV n l).length ≤ wtL l := by
  cases l with
  | nil => simp [nxV]
  | cons p t =>
    simp only [nxV]
    split
    · rw [wtL_cons]; simp only [wtP]; omega
    · simp
theorem modR_up {l : List Pr} {m : Md} {r : List Pr} (h : modR l = some (m, r)) : (modB1 m).length + wtL r ≤ wtL l := by
  cases l with
  | nil => cases h
  | cons p t =>
    simp only [modR] at h
    cases ho : opI p.1 with
    | none => rw [ho] at h; cases h
    | some k =>
      rw [ho] at h
      simp only at h
      by_cases hn : nxB [45] (leftR p.2 t) = true
      · rw [if_pos hn] at h
        simp only [Option.some.injEq, Prod.mk.injEq] at h
        obtain ⟨rfl, rfl⟩ := h
        have hop : opW k = p.1 := by
          unfold opI at ho
          split at ho
          · cases ho; symm; assumption
          · split at ho
            · cases ho; symm; assumption
            · split at ho
              · cases ho; symm; assumption
              · cases ho
        have h1 := lineB_up (opW k) p.2
        have h2 := valsB_up p.2 (valsR p.2 t)
        have h3 := congrArg wtL (valsR_eq p.2 t)
        rw [wtL_app] at h3
        have h4 : wtL (nxL [45] (leftR p.2 t)) + 9 ≤ wtL (leftR p.2 t) := by
          cases hl : leftR p.2 t with
          | nil => rw [hl] at hn; cases hn
          | cons q r =>
            rw [hl] at hn
            have hq : q.1 = [45] := by simpa [nxB] using hn
            simp only [nxL, hq, if_true]
            rw [wtL_cons]
            simp only [wtP, hq, List.length_singleton]
            omega
        have h5 : (modB1 (k, p.2, valsR p.2 t)).length = (lineB (opW k) p.2).length + (valsB p.2 (valsR p.2 t)).length + 2 := by
          simp [modB1]
          omega
        rw [h5, wtL_cons]
        rw [hop] at h1
        rw [hop]
        simp only [wtP]
        omega
      · rw [if_neg hn] at h; cases h
theorem modsR_up : ∀ (n : Nat) (l : List Pr), (modB (modsR n l)).length ≤ wtL l
  | 0, _ => by simp [modsR, modB]
  | n + 1, l => by
    unfold modsR
    split
    · simp [modB]
    · rename_i m r hm
      have h1 := modR_up hm
      have h2 := modsR_up n r
      have e : modB (m :: modsR n r) = modB1 m ++ modB (modsR n r) := by simp [modB]
      rw [e, List.length_append]
      omega
theorem moveB_up (c : Chg) : (moveB c).length ≤ 2 * c.newRdn.length + 2 * c.newSup.length + 100 := by
  have h1 := lineB_up [110, 101, 119, 114, 100, 110] c.newRdn
  have h2 := lineB_up [100, 101, 108, 101, 116, 101, 111, 108, 100, 114, 100, 110] (if c.delOld then [49] else [48])
  have h3 := lineB_up [110, 101, 119, 115, 117, 112, 101, 114, 105, 111, 114] c.newSup
  have h4 : (if c.delOld then ([49] : List UInt8) else [48]).length = 1 := by split <;> rfl
  unfold moveB
  simp only [List.length_append]
  simp only [List.length_cons, List.length_nil] at h1 h2 h3
  rw [h4] at h2
  generalize lineB [100, 101, 108, 101, 116, 101, 111, 108, 100, 114, 100, 110] (if c.delOld then [49] else [48]) = D at h2 ⊢
  split
  · omega
  · simp only [List.length_nil]; omega
theorem record_up (l : List Pr) : (textC (recordR l)).length ≤ 10 * wtL l + 1000 := by
  have a0 := nxV_up wTime l
  have b0 := nxL_up wTime l
  have a1 := nxV_up wWho (nxL wTime l)
  have b1 := nxL_up wWho (nxL wTime l)
  have a2 := nxV_up wDn (nxL wWho (nxL wTime l))
  have b2 := nxL_up wDn (nxL wWho (nxL wTime l))
  have b3 := nxL_up wType (nxL wDn (nxL wWho (nxL wTime l)))
  obtain ⟨l4, hl4⟩ : ∃ x, nxL wType (nxL wDn (nxL wWho (nxL wTime l))) = x := ⟨_, rfl⟩
  have a5 := nxV_up wRdn l4
  have b5 := nxL_up wRdn l4
  have b6 := nxL_up wOld (nxL wRdn l4)
  have a7 := nxV_up wSup (nxL wOld (nxL wRdn l4))
  have e1 := addR_up l4 []
  have e2 := modsR_up l4.length l4
  rw [hl4] at b3
  obtain ⟨c, hc⟩ : ∃ c, recordR l = c := ⟨_, rfl⟩
  have t0 : c.time = nxV wTime l := by rw [← hc]; rfl
  have t1 : c.who = nxV wWho (nxL wTime l) := by rw [← hc]; rfl
  have t2 : c.dn = nxV wDn (nxL wWho (nxL wTime l)) := by rw [← hc]; rfl
  have t4 : c.attrs = if c.kind = 0 then addR l4 [] else [] := by rw [← hc, ← hl4]; rfl
  have t5 : c.mods = if c.kind = 2 then modsR l4.length l4 else [] := by rw [← hc, ← hl4]; rfl
  have t6 : c.newRdn = if c.kind = 3 then nxV wRdn l4 else [] := by rw [← hc, ← hl4]; rfl
  have t7 : c.newSup = if c.kind = 3 then nxV wSup (nxL wOld (nxL wRdn l4)) else [] := by rw [← hc, ← hl4]; rfl
  rw [hc]
  have h1 := lineB_up [116, 105, 109, 101] c.time
  have h2 := lineB_up [119, 104, 111] c.who
  have h3 := lineB_up [100, 110] c.dn
  have h4 := lineB_up [99, 104, 97, 110, 103, 101, 116, 121, 112, 101] (kindW c.kind)
  have h5 : (kindW c.kind).length ≤ 10 := by unfold kindW; split <;> (try split) <;> (try split) <;> simp
  have h6 := moveB_up c
  have h7 : (restC c).length ≤ 4 * wtL l + 200 := by
    unfold restC
    split
    · rename_i hk
      rw [t4, if_pos hk]
      have : (attrB []).length = 0 := rfl
      omega
    · split
      · rename_i hk
        rw [t5, if_pos hk]
        omega
      · split
        · rename_i hk
          rw [if_pos hk] at t6 t7
          rw [t6, t7] at h6
          omega
        · simp
  have h8 : (textC c).length = (lineB [116, 105, 109, 101] c.time).length + (lineB [119, 104, 111] c.who).length + (lineB [100, 110] c.dn).length + (lineB [99, 104, 97, 110, 103, 101, 116, 121, 112, 101] (kindW c.kind)).length + (restC c).length + 1 := by
    simp [textC, headC]; omega
  rw [t0] at h1
  rw [t1] at h2
  rw [t2] at h3
  rw [h8, t0, t1, t2]
  simp only [List.length_cons, List.length_nil] at h1 h2 h3 h4
  omega
theorem lineB_ge (n v : List UInt8) : n.length + v.length + 1 ≤ (lineB n v).length := by
  unfold lineB
  split
  · simp; omega
  · simp only [List.length_append, b64_length v.length v (Nat.le_refl _)]
    simp
    omega
theorem valsB_ge (n : List UInt8) : ∀ vs : List (List UInt8), vs.length ≤ (valsB n vs).length ∧ ∀ v ∈ vs, n.length + v.length ≤ (valsB n vs).length
  | [] => ⟨by simp, fun v hv => by cases hv⟩
  | v :: vs => by
    obtain ⟨h1, h2⟩ := valsB_ge n vs
    have e : valsB n (v :: vs) = lineB n v ++ valsB n vs := by simp [valsB]
    have h3 := lineB_ge n v
    rw [e, List.length_append]
    refine ⟨by simp; omega, fun u hu => ?_⟩
    rcases List.mem_cons.1 hu with rfl | hu
    · omega
    · have := h2 u hu; omega
theorem attrB_ge : ∀ al : List At, (∀ x ∈ al, x.2 ≠ []) → al.length ≤ (attrB al).length ∧ ∀ x ∈ al, x.1.length ≤ (attrB al).length ∧ x.2.length ≤ (attrB al).length ∧ ∀ v ∈ x.2, v.length ≤ (attrB al).length
  | [], _ => ⟨by simp, fun x hx => by cases hx⟩
  | a :: al, h => by
    obtain ⟨h1, h2⟩ := attrB_ge al (fun x hx => h x (by simp [hx]))
    have e : attrB (a :: al) = valsB a.1 a.2 ++ attrB al := by simp [attrB]
    obtain ⟨h3, h4⟩ := valsB_ge a.1 a.2
    have h5 := List.length_pos_iff.2 (h a (by simp))
    rw [e, List.length_append]
    refine ⟨by simp; omega, fun x hx => ?_⟩
    rcases List.mem_cons.1 hx with rfl | hx
    · obtain ⟨v, hv⟩ := List.exists_mem_of_ne_nil _ (h x (by simp))
      have := h4 v hv
      exact ⟨by omega, by omega, fun u hu => by have := h4 u hu; omega⟩
    · obtain ⟨q1, q2, q3⟩ := h2 x hx
      exact ⟨by omega, by omega, fun u hu => by have := q3 u hu; omega⟩
theorem modB_ge : ∀ ms : List Md, ms.length ≤ (modB ms).length ∧ ∀ x ∈ ms, x.2.1.length ≤ (modB ms).length ∧ x.2.2.length ≤ (modB ms).length ∧ ∀ v ∈ x.2.2, v.length ≤ (modB ms).length
  | [] => ⟨by simp, fun x hx => by cases hx⟩
  | a :: ms => by
    obtain ⟨h1, h2⟩ := modB_ge ms
    have e : modB (a :: ms) = modB1 a ++ modB ms := by simp [modB]
    obtain ⟨h3, h4⟩ := valsB_ge a.2.1 a.2.2
    have h5 := lineB_ge (opW a.1) a.2.1
    have h6 : (modB1 a).length = (lineB (opW a.1) a.2.1).length + (valsB a.2.1 a.2.2).length + 2 := by simp [modB1]; omega
    rw [e, List.length_append]
    refine ⟨by simp; omega, fun x hx => ?_⟩
    rcases List.mem_cons.1 hx with rfl | hx
    · exact ⟨by omega, by omega, fun u hu => by have := h4 u hu; omega⟩
    · obtain ⟨q1, q2, q3⟩ := h2 x hx
      exact ⟨by omega, by omega, fun u hu => by have := q3 u hu; omega⟩
theorem small_of (c : Chg) (h1 : c.time.length ≤ 1000000000 ∧ c.who.length ≤ 1000000000 ∧ c.dn.length ≤ 1000000000 ∧ c.newRdn.length ≤ 1000000000 ∧ c.newSup.length ≤ 1000000000)
    (hA : ∀ x ∈ c.attrs, x.2 ≠ []) (ha : (attrB c.attrs).length ≤ 1000000000) (hm : (modB c.mods).length ≤ 1000000000) (hT : (textC c).length ≤ 1000000000) : Small c := by
  obtain ⟨q1, q2⟩ := attrB_ge c.attrs hA
  obtain ⟨m1, m2⟩ := modB_ge c.mods
  refine ⟨h1, by omega, by omega, fun x hx => ?_, fun x hx => ?_, fun _ => hT⟩
  · obtain ⟨a, b, d⟩ := q2 x hx
    exact ⟨by omega, by omega, fun v hv => by have := d v hv; omega⟩
  · obtain ⟨a, b, d⟩ := m2 x hx
    exact ⟨by omega, by omega, fun v hv => by have := d v hv; omega⟩
theorem addR_ne : ∀ (l : List Pr) (acc : List At), (∀ x ∈ acc, x.2 ≠ []) → ∀ x ∈ addR l acc, x.2 ≠ []
  | [], acc, h => h
  | p :: t, acc, h => by
    unfold addR
    split
    · exact h
    · refine addR_ne t _ (fun x hx => ?_)
      unfold putA at hx
      split at hx
      · split at hx
        · rcases List.mem_append.1 hx with hx | hx
          · exact h x (List.dropLast_subset _ hx)
          · simp at hx; subst hx; simp
        · rcases List.mem_append.1 hx with hx | hx
          · exact h x hx
          · simp at hx; subst hx; simp
      · simp at hx; subst hx; simp
theorem pair_up (x : List UInt8) : wtP (pairB x) ≤ 3 * x.length + 8 := by
  obtain ⟨a, b, c, hcut⟩ : ∃ a b c, cut x [58] = (a, b, c) := ⟨_, _, _, rfl⟩
  have h4 : ((pairV b).getD []).length ≤ b.length := by
    have t1 := trimPrefix_le (trimPrefix b [58]) [32]
    have t2 := trimPrefix_le b [58]
    unfold pairV
    split
    · cases hu : unb (trimPrefix (trimPrefix b [58]) [32]) with
      | none => simp
      | some d =>
        have := (unb_some _ _).1 hu
        have h5 := b64_length d.length d (Nat.le_refl _)
        rw [this] at h5
        simp only [Option.getD_some]
        omega
    · simp only [Option.getD_some]
      omega
  have h3 : a.length ≤ x.length ∧ b.length ≤ x.length := by
    refine ⟨?_, cut_le x hcut⟩
    unfold cut at hcut
    split at hcut
    · simp only [Prod.mk.injEq] at hcut
      rw [← hcut.1]; exact List.length_take_le' _ _
    · simp only [Prod.mk.injEq] at hcut
      rw [← hcut.1]; exact Nat.le_refl _
  have h5 : (pairB x).2.length ≤ x.length := by
    unfold pairB
    rw [hcut]
    simp only
    omega
  have h6 : (pairB x).1.length ≤ x.length := by
    unfold pairB
    rw [hcut]
    simp only
    split
    · simp
    · exact h3.1
  unfold wtP
  omega
theorem pairs_up : ∀ l : List (List UInt8), wtL (l.map pairB) ≤ 3 * (l.map List.length).sum + 8 * l.length
  | [] => by simp [wtL]
  | x :: l => by
    have h1 := pairs_up l
    have h2 := pair_up x
    rw [List.map_cons, wtL_cons]
    simp only [List.map_cons, List.sum_cons, List.length_cons]
    omega
theorem cutL_sum : ∀ s : List UInt8, ((cutL s).map List.length).sum ≤ s.length
  | [] => by simp [cutL]
  | c :: t => by
    have := cutL_sum t
    simp only [cutL]
    split
    · simp; omega
    · split
      · simp
      · rename_i p ps hq
        rw [hq] at this
        simp at this ⊢
        omega
theorem small_record (text : List UInt8) (h : text.length ≤ 65536) : Small (recordR ((cutL text).map pairB)) := by
  obtain ⟨l, hl⟩ : ∃ l, (cutL text).map pairB = l := ⟨_, rfl⟩
  have h1 := pairs_up (cutL text)
  have h2 := cutL_sum text
  have h3 := cutL_len text
  rw [hl] at h1
  have h4 : wtL l ≤ 1000000 := by omega
  rw [hl]
  have ht := record_up l
  have a0 := nxV_up wTime l
  have b0 := nxL_up wTime l
  have a1 := nxV_up wWho (nxL wTime l)
  have b1 := nxL_up wWho (nxL wTime l)
  have a2 := nxV_up wDn (nxL wWho (nxL wTime l))
  have b2 := nxL_up wDn (nxL wWho (nxL wTime l))
  have b3 := nxL_up wType (nxL wDn (nxL wWho (nxL wTime l)))
  obtain ⟨l4, hl4⟩ : ∃ x, nxL wType (nxL wDn (nxL wWho (nxL wTime l))) = x := ⟨_, rfl⟩
  rw [hl4] at b3
  have a5 := nxV_up wRdn l4
  have b5 := nxL_up wRdn l4
  have b6 := nxL_up wOld (nxL wRdn l4)
  have a7 := nxV_up wSup (nxL wOld (nxL wRdn l4))
  have e1 := addR_up l4 []
  have e2 := modsR_up l4.length l4
  have e3 : (attrB []).length = 0 := rfl
  have e4 : (modB []).length = 0 := rfl
  have hn := addR_ne l4 [] (fun x hx => by cases hx)
  obtain ⟨c, hc⟩ : ∃ c, recordR l = c := ⟨_, rfl⟩
  have t0 : c.time = nxV wTime l := by rw [← hc]; rfl
  have t1 : c.who = nxV wWho (nxL wTime l) := by rw [← hc]; rfl
  have t2 : c.dn = nxV wDn (nxL wWho (nxL wTime l)) := by rw [← hc]; rfl
  have t4 : c.attrs = if c.kind = 0 then addR l4 [] else [] := by rw [← hc, ← hl4]; rfl
  have t5 : c.mods = if c.kind = 2 then modsR l4.length l4 else [] := by rw [← hc, ← hl4]; rfl
  have t6 : c.newRdn = if c.kind = 3 then nxV wRdn l4 else [] := by rw [← hc, ← hl4]; rfl
  have t7 : c.newSup = if c.kind = 3 then nxV wSup (nxL wOld (nxL wRdn l4)) else [] := by rw [← hc, ← hl4]; rfl
  rw [hc] at ht ⊢
  refine small_of c ⟨by rw [t0]; omega, by rw [t1]; omega, by rw [t2]; omega, ?_, ?_⟩ ?_ ?_ ?_ (by omega)
  · rw [t6]; split
    · omega
    · simp
  · rw [t7]; split
    · omega
    · simp
  · rw [t4]; split
    · exact hn
    · exact fun x hx => by cases hx
  · rw [t4]; split <;> omega
  · rw [t5]; split <;> omega
theorem Parse_any (text : List UInt8) (w : World) (hl : text.length ≤ 1000000000000) (hE : Env w) :
    Calls Tryz.prog 7 #[.string ⟨text.toArray⟩] w (ParsePost text w) := by
  by_cases h : 65536 < text.length
  · exact Parse_long text w h hl
  · exact Parse_short text w h hE (small_record text (by omega))
def sep2 : List UInt8 := [10, 10]
def allF : Nat → List UInt8 → Option (List Chg)
  | 0, s => if s = [] then some [] else none
  | n + 1, s => if s = [] then some [] else
    if index s sep2 < 0 then none else match parseC (s.take ((index s sep2).toNat + 2)) with
    | none => none
    | some c => (allF n (s.drop ((index s sep2).toNat + 2))).map (c :: ·)
def allC (s : List UInt8) : Option (List Chg) := if 65536 < s.length then none else allF s.length s
theorem allF_fuel : ∀ (n m : Nat) (s : List UInt8), s.length ≤ n → s.length ≤ m → allF n s = allF m s
  | 0, 0, _, _, _ => rfl
  | 0, m + 1, s, h, _ => by
    have e : s = [] := List.length_eq_zero_iff.1 (by omega)
    subst e; simp [allF]
  | n + 1, 0, s, _, h => by
    have e : s = [] := List.length_eq_zero_iff.1 (by omega)
    subst e; simp [allF]
  | n + 1, m + 1, s, h1, h2 => by
    unfold allF
    by_cases hs : s = []
    · rw [if_pos hs, if_pos hs]
    · rw [if_neg hs, if_neg hs]
      have hp : 0 < s.length := List.length_pos_iff.2 hs
      rw [allF_fuel n m (s.drop ((index s sep2).toNat + 2)) (by simp only [List.length_drop]; omega) (by simp only [List.length_drop]; omega)]
theorem allF_cases {s : List UInt8} (h : s ≠ []) : (index s sep2 < 0 → allF s.length s = none) ∧ ∀ n : Nat, index s sep2 = (n : Int) →
    (parseC (s.take (n + 2)) = none → allF s.length s = none) ∧ ∀ c, parseC (s.take (n + 2)) = some c → allF s.length s = (allF (s.drop (n + 2)).length (s.drop (n + 2))).map (c :: ·) := by
  obtain ⟨m, hm⟩ : ∃ m, s.length = m + 1 := ⟨s.length - 1, by have : 0 < s.length := List.length_pos_iff.2 h; omega⟩
  have e : allF s.length s = if index s sep2 < 0 then none else match parseC (s.take ((index s sep2).toNat + 2)) with
      | none => none
      | some c => (allF m (s.drop ((index s sep2).toNat + 2))).map (c :: ·) := by
    rw [hm]
    conv => lhs; unfold allF
    rw [if_neg h]
  refine ⟨fun hn => by rw [e, if_pos hn], fun n hn => ?_⟩
  rw [hn, if_neg (by omega), show ((n : Int)).toNat = n by omega] at e
  refine ⟨fun hp => by rw [e, hp], fun c hp => ?_⟩
  rw [e, hp]
  simp only
  rw [allF_fuel m (s.drop (n + 2)).length (s.drop (n + 2)) (by simp only [List.length_drop]; omega) (Nat.le_refl _)]
theorem Tryz.infoChg : (Tryz.prog.info? 47).map (fun i => (i.zero, i.size, i.bytes)) = some (some (.agg #[.string ⟨#[]⟩, .string ⟨#[]⟩, .string ⟨#[]⟩, .int .i64 0, .slice none 0 0, .slice none 0 0, .string ⟨#[]⟩, .string ⟨#[]⟩, .bool false, .bool false]), 10, 144) := by kernel_rfl
def flatC : List Chg → List (Value × Value) → List Value
  | c :: cs, p :: ps => (chgA c p.1 p.2).toList ++ flatC cs ps
  | _, _ => []
theorem chgA_len (c : Chg) (u v : Value) : (chgA c u v).toList.length = 10 := rfl
theorem flatC_length : ∀ (cs : List Chg) (us : List (Value × Value)), us.length = cs.length → (flatC cs us).length = cs.length * 10
  | [], _, _ => by simp [flatC]
  | m :: ms, [], h => by simp at h
  | m :: ms, u :: us, h => by
    have := flatC_length ms us (by simpa using h)
    simp only [flatC, List.length_cons, List.length_append, chgA_len, this]
    omega
theorem flatC_snoc : ∀ (cs : List Chg) (us : List (Value × Value)) (c : Chg) (u : Value × Value), us.length = cs.length → flatC (cs ++ [c]) (us ++ [u]) = flatC cs us ++ (chgA c u.1 u.2).toList
  | [], [], c, u, _ => by simp [flatC]
  | [], _ :: _, _, _, h => by simp at h
  | _ :: _, [], _, _, h => by simp at h
  | a :: cs, b :: us, c, u, h => by
    have := flatC_snoc cs us c u (by simpa using h)
    simp only [List.cons_append, flatC, this, List.append_assoc]
theorem flatC_get : ∀ (cs : List Chg) (us : List (Value × Value)) (j : Nat) (c : Chg) (u : Value × Value) (i : Nat), cs[j]? = some c → us[j]? = some u → i < 10 → (flatC cs us)[j * 10 + i]? = (chgA c u.1 u.2)[i]?
  | [], _, _, _, _, _, h, _, _ => by simp at h
  | _ :: _, [], _, _, _, _, _, h, _ => by simp at h
  | a :: cs, b :: us, 0, c, u, i, h, k, hi => by
    simp only [List.getElem?_cons_zero, Option.some.injEq] at h k
    subst h k
    rw [flatC, List.getElem?_append_left (by rw [chgA_len]; omega)]
    simp
  | a :: cs, b :: us, j + 1, c, u, i, h, k, hi => by
    have := flatC_get cs us j c u i (by simpa using h) (by simpa using k) hi
    rw [flatC, List.getElem?_append_right (by rw [chgA_len]; omega), chgA_len]
    rw [show (j + 1) * 10 + i - 10 = j * 10 + i by omega]
    exact this
def ChgsAt (w : World) (v : Value) (cs : List Chg) : Prop :=
  ∃ (a : Option Addr) (cap : Nat), v = .slice a cs.length cap ∧ cs.length ≤ cap ∧ (cs ≠ [] → ∃ g o, a = some ⟨g, o, none⟩ ∧ ∀ (j : Nat) (c : Chg), cs[j]? = some c → ∃ vA vM, (∀ (i : Nat) (x : Value), (chgA c vA vM)[i]? = some x → w.cell? ⟨g, o + j * 10 + i, none⟩ = some x) ∧ AttrsAt w vA c.attrs ∧ ModsAt w vM c.mods)
theorem ChgsAt.below {w w' : World} {v : Value} {cs : List Chg} (h : ChgsAt w v cs) (hb : Below w.heap.size w w') : ChgsAt w' v cs := by
  obtain ⟨a, cap, hv, hc, hr⟩ := h
  refine ⟨a, cap, hv, hc, fun h0 => ?_⟩
  obtain ⟨g, o, ha, hr⟩ := hr h0
  refine ⟨g, o, ha, fun j c hj => ?_⟩
  obtain ⟨vA, vM, h1, h2, h3⟩ := hr j c hj
  exact ⟨vA, vM, fun i x hi => (hb.cell (lt_of_cell (h1 i x hi))).trans (h1 i x hi), h2.below hb, h3.below hb⟩
def RecH (B H : Nat) (w : World) (vA vM : Value) (c : Chg) : Prop :=
  (∃ us, w.ownsRow B 179 2 vA c.attrs.length (flatA c.attrs us) ∧ us.length = c.attrs.length ∧ (∀ (j : Nat) (x : At) (u : Value), c.attrs[j]? = some x → us[j]? = some u → w.ownsRow B 9 1 u x.2.length (sV x.2)) ∧ Dist us ∧
    (∀ k, vA.ownBlock = some k → k < H) ∧ ∀ u ∈ us, ∀ k, u.ownBlock = some k → k < H) ∧
  (∃ us, w.ownsRow B 182 3 vM c.mods.length (flatM c.mods us) ∧ us.length = c.mods.length ∧ (∀ (j : Nat) (x : Md) (u : Value), c.mods[j]? = some x → us[j]? = some u → w.ownsRow B 9 1 u x.2.2.length (sV x.2.2)) ∧ Dist us ∧
    (∀ k, vM.ownBlock = some k → k < H) ∧ ∀ u ∈ us, ∀ k, u.ownBlock = some k → k < H) ∧
  (vA = .slice none 0 0 ∨ vM = .slice none 0 0)
theorem RecO.h {B : Nat} {w : World} {vA vM : Value} {c : Chg} (h : RecO B w vA vM c) : RecH B w.heap.size w vA vM c := by
  obtain ⟨⟨us, a1, a2, a3, a4⟩, ⟨vs, m1, m2, m3, m4⟩, hn⟩ := h
  refine ⟨⟨us, a1, a2, a3, a4, fun k hk => (a1.lt k hk).2, fun u hu k hk => ?_⟩, ⟨vs, m1, m2, m3, m4, fun k hk => (m1.lt k hk).2, fun u hu k hk => ?_⟩, hn⟩
  · obtain ⟨j, hj⟩ := List.getElem?_of_mem hu
    have hl := (List.getElem?_eq_some_iff.1 hj).1
    exact ((a3 j c.attrs[j] u (List.getElem?_eq_getElem (by omega)) hj).lt k hk).2
  · obtain ⟨j, hj⟩ := List.getElem?_of_mem hu
    have hl := (List.getElem?_eq_some_iff.1 hj).1
    exact (World.ownsRow.lt (m3 j c.mods[j] u (List.getElem?_eq_getElem (by omega)) hj) k hk).2
theorem RecH.o {B H : Nat} {w : World} {vA vM : Value} {c : Chg} (h : RecH B H w vA vM c) : RecO B w vA vM c := by
  obtain ⟨⟨us, a1, a2, a3, a4, _⟩, ⟨vs, m1, m2, m3, m4, _⟩, hn⟩ := h
  exact ⟨⟨us, a1, a2, a3, a4⟩, ⟨vs, m1, m2, m3, m4⟩, hn⟩
theorem own_ty_kept {w w' : World} {B e size n : Nat} {v : Value} {xs : List Value} (h : w.ownsRow B e size v n xs) (hk : ∀ k, Ty w k e → w'.heap[k]? = w.heap[k]?) : w'.ownsRow B e size v n xs := by
  refine ⟨h.1, ?_⟩
  rcases h.2 with hz | ⟨g, cap, cur, rfl, hb, hg, r⟩
  · exact .inl hz
  · exact .inr ⟨g, cap, cur, rfl, hb, (hk g ⟨_, _, hg⟩).trans hg, r⟩
def recT (t : TypeId) : Prop := t = 9 ∨ t = 179 ∨ t = 182
theorem RecH.kept {B H : Nat} {w w' : World} {vA vM : Value} {c : Chg} (h : RecH B H w vA vM c) (hk : ∀ k t, Ty w k t → recT t → w'.heap[k]? = w.heap[k]?) : RecH B H w' vA vM c := by
  obtain ⟨⟨us, a1, a2, a3, a4⟩, ⟨vs, m1, m2, m3, m4⟩, hn⟩ := h
  exact ⟨⟨us, own_ty_kept a1 (fun k ht => hk k _ ht (.inr (.inl rfl))), a2, fun j x u h1 h2 => own_ty_kept (a3 j x u h1 h2) (fun k ht => hk k _ ht (.inl rfl)), a4⟩,
    ⟨vs, own_ty_kept m1 (fun k ht => hk k _ ht (.inr (.inr rfl))), m2, fun j x u h1 h2 => own_ty_kept (m3 j x u h1 h2) (fun k ht => hk k _ ht (.inl rfl)), m4⟩, hn⟩
theorem RecH.below {B H : Nat} {w w' : World} {vA vM : Value} {c : Chg} (h : RecH B H w vA vM c) (hb : Below w.heap.size w w') : RecH B H w' vA vM c :=
  h.kept (fun k _ ht _ => hb.block k (by obtain ⟨_, _, ht⟩ := ht; exact (Array.getElem?_eq_some_iff.1 ht).1))
theorem RecH.grown {B H B' size n : Nat} {w w' : World} {vA vM v : Value} {xs : List Value} {c : Chg} (h : RecH B H w vA vM c) (hv : w.ownsRow B' 47 size v n xs) (hg : w.grownBy w' v.ownBlock) : RecH B H w' vA vM c :=
  h.kept (fun k t ht hr => hg.block k (by obtain ⟨_, _, ht⟩ := ht; exact (Array.getElem?_eq_some_iff.1 ht).1) (fun e => by
    have := (own_ty hv e.symm).eq ht
    subst this
    rcases hr with hr | hr | hr <;> exact absurd hr (by decide)))
theorem RecH.mono {B B' H H' : Nat} {w : World} {vA vM : Value} {c : Chg} (h : RecH B H w vA vM c) (hB : B' ≤ B) (hH : H ≤ H') : RecH B' H' w vA vM c := by
  obtain ⟨⟨us, a1, a2, a3, a4, a5, a6⟩, ⟨vs, m1, m2, m3, m4, m5, m6⟩, hn⟩ := h
  exact ⟨⟨us, own_lower a1 hB, a2, fun j x u h1 h2 => own_lower (a3 j x u h1 h2) hB, a4, fun k hk => Nat.lt_of_lt_of_le (a5 k hk) hH, fun u hu k hk => Nat.lt_of_lt_of_le (a6 u hu k hk) hH⟩,
    ⟨vs, own_lower m1 hB, m2, fun j x u h1 h2 => own_lower (m3 j x u h1 h2) hB, m4, fun k hk => Nat.lt_of_lt_of_le (m5 k hk) hH, fun u hu k hk => Nat.lt_of_lt_of_le (m6 u hu k hk) hH⟩, hn⟩
def ChgsO (N : Nat) (w : World) (v : Value) (cs : List Chg) (us : List (Value × Value)) (h : Nat → Nat) : Prop :=
  w.ownsRow N 47 10 v cs.length (flatC cs us) ∧ us.length = cs.length ∧ N ≤ h 0 ∧ (∀ j, j < cs.length → h j ≤ h (j + 1)) ∧ h cs.length ≤ w.heap.size ∧
    ∀ (j : Nat) (c : Chg) (p : Value × Value), cs[j]? = some c → us[j]? = some p → RecH (h j) (h (j + 1)) w p.1 p.2 c
theorem chgs_own {N : Nat} {w : World} {v : Value} {cs : List Chg} {us : List (Value × Value)} (h : w.ownsRow N 47 10 v cs.length (flatC cs us)) (hl : us.length = cs.length)
    (hs : ∀ (j : Nat) (c : Chg) (p : Value × Value), cs[j]? = some c → us[j]? = some p → AttrsAt w p.1 c.attrs ∧ ModsAt w p.2 c.mods) : ChgsAt w v cs := by
  rcases id h.2 with ⟨rfl, h0⟩ | ⟨g, cap, cur, rfl, hb, hg, hc, _, _, ht⟩
  · have : cs = [] := List.length_eq_zero_iff.1 h0
    subst this
    exact ⟨none, 0, rfl, by simp, fun h => absurd rfl h⟩
  · refine ⟨some ⟨g, 0, none⟩, cap, rfl, hc, fun _ => ⟨g, 0, rfl, fun j c hj => ?_⟩⟩
    obtain ⟨u, hu⟩ : ∃ u, us[j]? = some u := ⟨us[j]'(by rw [hl]; exact (List.getElem?_eq_some_iff.1 hj).1), List.getElem?_eq_getElem _⟩
    obtain ⟨r1, r2⟩ := hs j c u hj hu
    refine ⟨u.1, u.2, fun i x hx => ?_, r1, r2⟩
    have hi10 : i < 10 := (Array.getElem?_eq_some_iff.1 hx).1
    have g1 := flatC_get cs us j c u i hj hu hi10
    rw [hx] at g1
    rw [Nat.zero_add]
    exact (own_cell h g1).1
theorem ChgsO.at {N : Nat} {w : World} {v : Value} {cs : List Chg} {us : List (Value × Value)} {h : Nat → Nat} (hc : ChgsO N w v cs us h) : ChgsAt w v cs :=
  chgs_own hc.1 hc.2.1 (fun j c p h1 h2 => (hc.2.2.2.2.2 j c p h1 h2).o.at)
theorem ChgsO.below {N : Nat} {w w' : World} {v : Value} {cs : List Chg} {us : List (Value × Value)} {h : Nat → Nat} (hc : ChgsO N w v cs us h) (hb : Below w.heap.size w w') : ChgsO N w' v cs us h :=
  ⟨own_below hc.1 hb, hc.2.1, hc.2.2.1, hc.2.2.2.1, Nat.le_trans hc.2.2.2.2.1 hb.size, fun j c p h1 h2 => (hc.2.2.2.2.2 j c p h1 h2).below hb⟩
theorem ChgsO.nil (N : Nat) (w : World) (hN : N ≤ w.heap.size) : ChgsO N w (.slice none 0 0) [] [] (fun _ => N) :=
  ⟨World.ownsRow_nil _ _ _ _, rfl, Nat.le_refl _, fun j hj => by simp at hj, hN, fun j c p h => by simp at h⟩
def AllRel (w : World) (text : List UInt8) (t v : Value) (wr : World) : Prop :=
  ∃ (rest : List UInt8) (done : List Chg) (us : List (Value × Value)), t = .string ⟨rest.toArray⟩ ∧ done.length + rest.length ≤ text.length ∧ allF text.length text = (allF rest.length rest).map (done ++ ·) ∧ Below w.heap.size w wr ∧
    ∃ h, ChgsO w.heap.size wr v done us h
def AllPost (text : List UInt8) (w : World) (e : Ending) (w' : World) : Prop :=
  Below w.heap.size w w' ∧ match allC text with
  | some cs => ∃ v us h, e = .returned (.tuple #[v, .int .i64 0]) ∧ ChgsO w.heap.size w' v cs us h
  | none => e = .returned (.tuple #[.slice none 0 0, .int .i64 (if 65536 < text.length then 2 else 110)])
theorem index_le2 : ∀ {s : List UInt8} {n : Nat}, index s sep2 = (n : Int) → n + 2 ≤ s.length
  | [], n, h => by
    unfold index at h
    simp [sep2] at h
  | b :: l, n, h => by
    unfold index at h
    split at h
    · rename_i hp
      have := (List.isPrefixOf_iff_prefix.1 hp).length_le
      simp only [sep2, List.length_cons, List.length_nil] at this ⊢
      omega
    · split at h
      · omega
      · rename_i hn
        have h0 := index_ge l sep2
        have h1 : index l sep2 ≠ -1 := by simpa using hn
        have h2 : index l sep2 = ((n - 1 : Nat) : Int) := by omega
        have := index_le2 h2
        simp only [List.length_cons]
        omega
theorem All_short (text : List UInt8) (w : World) (hl : text.length ≤ 65536) (hE : Env w) :
    Calls Tryz.prog 9 #[.string ⟨text.toArray⟩] w (AllPost text w) := by
  obtain ⟨PR, hPR⟩ : ∃ P, AllPost text w = P := ⟨_, rfl⟩
  rw [hPR]
  have HPR := Lib.hid hPR
  clear hPR
  have g1 : decide ((65536 : Int) < (text.length : Int)) = false := decide_eq_false (by omega)
  obtain ⟨i0, hi0, hz0, hz1, hz2⟩ := info_parts Tryz.infoChg
  go_enter Tryz.func9, Tryz.ntmps9
  go_wp2_with fail
  go_loopw [0, 4] (fun t v wr => AllRel w text t v wr) (fun t _ _ => (match t with | .string s => s.size | _ => 0))
  case atStart => exact ⟨text, [], [], rfl, by simp, by simp, Below.refl _ _, _, ChgsO.nil _ _ (Nat.le_refl _)⟩
  case round =>
    obtain ⟨rest, done, us, rfl, hlen, hall, hbe, hb, hco⟩ := hrel
    have HCO := Lib.hid hco
    obtain ⟨hown, hul, hb0, hbm, hbn, hrec⟩ := hco
    have HALL := Lib.hid hall
    clear hall
    by_cases hr0 : rest = []
    · subst hr0
      go_wp2_with fail
      show PR (.returned (.tuple #[u4, .int .i64 0])) wr
      rw [← HPR.out]
      unfold AllPost allC
      rw [if_neg (by omega), HALL.out]
      refine ⟨hbe, ?_⟩
      simp only [List.length_nil, allF, if_true, Option.map_some, List.append_nil]
      exact ⟨_, us, hb, rfl, HCO.out⟩
    · have hne : rest.isEmpty = false := by cases rest <;> simp_all
      obtain ⟨mx, hmx⟩ := (hE.below hbe).maxl
      have HCS := Lib.hid (allF_cases hr0)
      have hge := index_ge rest sep2
      obtain ⟨at1, hat⟩ : ∃ z, index rest sep2 = z := ⟨_, rfl⟩
      rw [hat] at hge
      have ki : Calls Tryz.prog 36 #[.string ⟨rest.toArray⟩, .string ⟨#[10, 10]⟩] wr fun e w' => e = .returned (.int .i64 at1) ∧ w' = wr := by
        rw [← hat]
        exact Tryz.strings_Index ⟨rest.toArray⟩ ⟨#[10, 10]⟩ mx wr (by simp [ByteArray.size]; omega) hmx
      have HAT := Lib.hid hat
      clear hat
      go_wp2_with fail
      refine Calls.mono (show Calls _ _ _ _ _ from ki) ?_
      rintro e w1 ⟨rfl, rfl⟩
      clear ki
      by_cases hneg : at1 < 0
      · have g2 : decide (at1 < 0) = true := decide_eq_true hneg
        go_wp2_with fail
        show PR (.returned (.tuple #[.slice none 0 0, .int .i64 110])) w1
        rw [← HPR.out]
        unfold AllPost allC
        rw [if_neg (by omega), if_neg (by omega), HALL.out, HCS.out.1 (by rw [HAT.out]; exact hneg)]
        exact ⟨hbe, rfl⟩
      · have g2 : decide (at1 < 0) = false := decide_eq_false hneg
        obtain ⟨n, hn⟩ : ∃ n : Nat, at1 = (n : Int) := ⟨at1.toNat, by omega⟩
        subst hn
        have hn2 := index_le2 HAT.out
        have hex : (⟨rest.toArray⟩ : ByteArray).extract 0 (n + 2) = ⟨(rest.take (n + 2)).toArray⟩ := by
          rw [Lib.extract_mk]
          simp
        have hex2 : (⟨rest.toArray⟩ : ByteArray).extract (n + 2) rest.length = ⟨(rest.drop (n + 2)).toArray⟩ := by
          rw [Lib.extract_mk]
          rw [List.take_of_length_le (by rw [List.length_drop]; omega)]
        have k5 := Parse_any (rest.take (n + 2)) w1 (by simp; omega) (hE.below hbe)
        unfold ParsePost at k5
        have htl : (rest.take (n + 2)).length ≤ 65536 := by simp; omega
        cases hp : parseC (rest.take (n + 2)) with
        | none =>
          rw [hp, if_neg (by omega)] at k5
          unfold chgA zeroC at k5
          simp only at k5
          have hnone := (HCS.out.2 n HAT.out).1 hp
          have HN := Lib.hid hnone
          clear hnone hp
          go_wp2_with fail
          rw [hex]
          refine Calls.mono (show Calls _ _ _ _ _ from k5) ?_
          rintro e w7 ⟨hb7, rfl⟩
          go_wp2_with fail
          show PR (.returned (.tuple #[.slice none 0 0, .int .i64 110])) _
          rw [← HPR.out]
          unfold AllPost allC
          rw [if_neg (by omega), if_neg (by omega), HALL.out, HN.out]
          exact ⟨(below_ext hbe hb7).alloc (by have := hb7.size; have := hbe.size; omega) _, rfl⟩
        | some c =>
          rw [hp] at k5
          simp only at k5
          have hsome := (HCS.out.2 n HAT.out).2 c hp
          have HSO := Lib.hid hsome
          have HREC := Lib.hid hrec
          clear hsome hp hrec
          go_wp2_with fail
          rw [hex]
          refine Calls.mono (show Calls _ _ _ _ _ from k5) ?_
          rintro e w7 ⟨hb7, xA, xM, rfl, hx⟩
          obtain ⟨hxA, hxM⟩ := hx.at
          have HX := Lib.hid hx.h
          clear hx
          obtain ⟨aX, cX, rfl, _⟩ := hxA
          obtain ⟨aY, cY, rfl, _⟩ := hxM
          have hown7 := own_below hown hb7
          have hs7 := hb7.size
          have hsb := hbe.size
          have hlt7 := hown.lt
          have hbe2 : Below w.heap.size w ((w7.alloc (.cells (chgA c (.slice aX c.attrs.length cX) (.slice aY c.mods.length cY)) 47)).alloc (.cells (chgA c (.slice aX c.attrs.length cX) (.slice aY c.mods.length cY)) 47)) := ((below_ext hbe hb7).alloc (by omega) _).alloc (by simp; omega) _
          have HBE2 := Lib.hid hbe2
          clear hbe2
          unfold chgA at HBE2 ⊢
          go_wp2_with (at_builtin; refine wpList_append_lies _ rfl (.tmp 28) (.tmp 30) 51 rfl w.heap.size 47 i0 (.agg #[.string ⟨#[]⟩, .string ⟨#[]⟩, .string ⟨#[]⟩, .int .i64 0, .slice none 0 0, .slice none 0 0, .string ⟨#[]⟩, .string ⟨#[]⟩, .bool false, .bool false]) 10 144 Tryz.underlying51 hi0 hz0 hz1 hz2 rfl (by omega) u4 done.length (flatC done us) rfl ((hown7.alloc _).alloc _) ⟨w7.heap.size + 1, 0, none⟩ 1 1 [.string ⟨c.time.toArray⟩, .string ⟨c.who.toArray⟩, .string ⟨c.dn.toArray⟩, .int .i64 c.kind, .slice aX c.attrs.length cX, .slice aY c.mods.length cY, .string ⟨c.newRdn.toArray⟩, .string ⟨c.newSup.toArray⟩, .bool c.delOld, .bool c.hasSup] rfl rfl (World.news_of_block (alloc_at _ _ _ (by simp))) ?d2 (by omega) ?d3 ?d4 ?d5 (w7.heap.size + 2) (by simp) ?_)
          case d2 => intro x hx; simp at hx; rcases hx with rfl | rfl | rfl | rfl | rfl | rfl | rfl | rfl | rfl | rfl <;> rfl
          case d3 => unfold maxLen; omega
          case d4 => omega
          case d5 => simp; omega
          intro g5 cap5 w8 ho8 hg8 hat8 hlt8
          have hb8 : Below w.heap.size w w8 := HBE2.out.grown hg8 (by simp; omega) (fun k hk => (hlt7 k hk).1)
          have hdl : (rest.drop (n + 2)).length + (n + 2) = rest.length := by rw [List.length_drop]; omega
          have hs8 : w7.heap.size ≤ w8.heap.size := by have := hg8.size; simp at this; omega
          have hbW : Below w7.heap.size w7 ((w7.alloc (.cells (chgA c (.slice aX c.attrs.length cX) (.slice aY c.mods.length cY)) 47)).alloc (.cells (chgA c (.slice aX c.attrs.length cX) (.slice aY c.mods.length cY)) 47)) := ((Below.refl _ _).alloc (Nat.le_refl _) _).alloc (by simp) _
          have hrec8 : ∃ h : Nat → Nat, w.heap.size ≤ h 0 ∧ (∀ j, j < (done ++ [c]).length → h j ≤ h (j + 1)) ∧ h (done ++ [c]).length ≤ w8.heap.size ∧ ∀ (j : Nat) (c' : Chg) (p : Value × Value), (done ++ [c])[j]? = some c' → (us ++ [(.slice aX c.attrs.length cX, .slice aY c.mods.length cY)])[j]? = some p → RecH (h j) (h (j + 1)) w8 p.1 p.2 c' := by
            refine ⟨fun j => if j ≤ done.length then hb j else w7.heap.size, by simpa using hb0, fun j hj => ?_, ?_, fun j c' p h1 h2 => ?_⟩
            · rw [List.length_append, List.length_singleton] at hj
              simp only
              rw [if_pos (by omega)]
              by_cases hjl : j < done.length
              · rw [if_pos (by omega)]; exact hbm j hjl
              · obtain rfl : j = done.length := by omega
                rw [if_neg (by omega)]
                omega
            · simp only [List.length_append, List.length_singleton]
              rw [if_neg (by omega)]
              exact hs8
            · rcases Nat.lt_or_ge j done.length with hj | hj
              · rw [List.getElem?_append_left hj] at h1
                rw [List.getElem?_append_left (by omega)] at h2
                simp only
                rw [if_pos (by omega), if_pos (by omega)]
                exact (((HREC.out j c' p h1 h2).below hb7).below hbW).grown ((hown7.alloc _).alloc _) hg8
              · obtain rfl : j = done.length := by
                  have := (List.getElem?_eq_some_iff.1 h1).1
                  simp at this
                  omega
                rw [List.getElem?_append_right (Nat.le_refl _), Nat.sub_self] at h1
                rw [List.getElem?_append_right (by omega), show done.length - us.length = 0 by omega] at h2
                simp only [List.getElem?_cons_zero, Option.some.injEq] at h1 h2
                subst h1 h2
                simp only
                rw [if_pos (Nat.le_refl _), if_neg (by omega)]
                exact ((HX.out.mono hbn (Nat.le_refl _)).below hbW).grown ((hown7.alloc _).alloc _) hg8
          obtain ⟨hb8f, r0, r1, r2, r3⟩ := hrec8
          have ho8' : w8.ownsRow w.heap.size 47 10 (.slice (some ⟨g5, 0, none⟩) (done.length + 1) cap5) (done ++ [c]).length (flatC (done ++ [c]) (us ++ [(.slice aX c.attrs.length cX, .slice aY c.mods.length cY)])) := by
            rw [flatC_snoc _ _ _ _ hul, List.length_append]
            exact ho8
          have HO8 := Lib.hid (show ChgsO w.heap.size w8 _ (done ++ [c]) (us ++ [(.slice aX c.attrs.length cX, .slice aY c.mods.length cY)]) hb8f from ⟨ho8', by simp [hul], r0, r1, r2, r3⟩)
          clear r0 r1 r2 r3 ho8 ho8' hg8 hbm hbW
          go_wp2_with fail
          refine ⟨⟨rest.drop (n + 2), done ++ [c], us ++ [(.slice aX c.attrs.length cX, .slice aY c.mods.length cY)], by rw [← hex2], by rw [List.length_append, List.length_singleton]; omega, ?_, hb8, hb8f, HO8.out⟩, ?_⟩
          · rw [HALL.out, HSO.out, Option.map_map]
            congr 1
            funext x
            simp
          · show (ByteArray.extract ⟨rest.toArray⟩ (n + 2) rest.length).size < (⟨rest.toArray⟩ : ByteArray).size
            rw [hex2, Lib.size_mk, Lib.size_mk, List.length_drop]
            omega
end Go.Proofs.YtegigcneimjimaaGreatDoor
