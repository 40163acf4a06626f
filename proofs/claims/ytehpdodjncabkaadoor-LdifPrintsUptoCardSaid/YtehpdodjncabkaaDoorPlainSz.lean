/- Chapter 18, plain: how long what is written of a record that was read may be. -/
import Derived.Test.YtehpdodjncabkaaDoorPlainRd
namespace Go.Proofs.YtehpdodjncabkaaDoor
open Go.Lib

theorem lineB_up (n v : List UInt8) : (lineB n v).length ≤ n.length + 2 * v.length + 8 := by
  unfold lineB
  split
  · simp; omega
  · simp only [List.length_append, b64_length v.length v (Nat.le_refl _)]
    simp
    omega
/-- What a line of that name and value may come to. -/
def wtP (p : Pr) : Nat := p.1.length + 2 * p.2.length + 8
def wtL (l : List Pr) : Nat := (l.map wtP).sum
theorem wtL_cons (p : Pr) (l : List Pr) : wtL (p :: l) = wtP p + wtL l := by simp [wtL]
theorem wtL_app (a b : List Pr) : wtL (a ++ b) = wtL a + wtL b := by simp [wtL]
theorem valsB_up (n : List UInt8) : ∀ vs : List (List UInt8), (valsB n vs).length ≤ wtL (vs.map fun v => (n, v))
  | [] => by simp [valsB, wtL]
  | v :: vs => by
    have ih := valsB_up n vs
    have e : valsB n (v :: vs) = lineB n v ++ valsB n vs := by simp [valsB]
    rw [e, List.length_append, List.map_cons, wtL_cons]
    have := lineB_up n v
    simp only [wtP]
    omega
theorem valsB_app (n : List UInt8) (a b : List (List UInt8)) : valsB n (a ++ b) = valsB n a ++ valsB n b := by simp [valsB]
theorem attrB_app (a b : List At) : attrB (a ++ b) = attrB a ++ attrB b := by simp [attrB]
theorem putA_up (p : Pr) (acc : List At) : (attrB (putA p acc)).length ≤ (attrB acc).length + wtP p := by
  have h1 := lineB_up p.1 p.2
  have e1 : attrB [(p.1, [p.2])] = lineB p.1 p.2 := by simp [attrB, valsB]
  unfold putA
  split
  · rename_i a ha
    obtain ⟨init, hi⟩ := List.getLast?_eq_some_iff.1 ha
    subst hi
    split
    · rename_i hp
      have e2 : attrB [(a.1, a.2 ++ [p.2])] = attrB [a] ++ lineB p.1 p.2 := by simp [attrB, valsB, hp]
      rw [List.dropLast_concat, attrB_app, attrB_app, e2]
      simp only [List.length_append, wtP]
      omega
    · rw [attrB_app, e1]
      simp only [List.length_append, wtP]
      omega
  · rename_i ha
    have : acc = [] := by simpa using ha
    subst this
    rw [e1]
    simp only [wtP]
    omega
theorem addR_up : ∀ (l : List Pr) (acc : List At), (attrB (addR l acc)).length ≤ (attrB acc).length + wtL l
  | [], acc => by simp [addR]
  | p :: t, acc => by
    unfold addR
    split
    · omega
    · have h1 := addR_up t (putA p acc)
      have h2 := putA_up p acc
      rw [wtL_cons]
      omega
theorem valsR_eq (t : List UInt8) : ∀ l : List Pr, (valsR t l).map (fun v => (t, v)) ++ leftR t l = l
  | [] => rfl
  | q :: r => by
    have ih := valsR_eq t r
    unfold valsR leftR at *
    by_cases hq : q.1 = t
    · have hb : (q.1 == t) = true := by simpa using hq
      simp only [List.takeWhile_cons, List.dropWhile_cons, hb, if_true, List.map_cons, List.cons_append, ih]
      rw [← hq]
    · have hb : (q.1 == t) = false := by simpa using hq
      simp [hb]
theorem nxL_up (n : List UInt8) (l : List Pr) : wtL (nxL n l) ≤ wtL l := by
  cases l with
  | nil => exact Nat.le_refl _
  | cons p t =>
    simp only [nxL]
    split
    · rw [wtL_cons]; omega
    · exact Nat.le_refl _
theorem nxV_up (n : List UInt8) (l : List Pr) : 2 * (nxV n l).length ≤ wtL l := by
  cases l with
  | nil => simp [nxV]
  | cons p t =>
    simp only [nxV]
    split
    · rw [wtL_cons]; simp only [wtP]; omega
    · simp
theorem modR_up {l : List Pr} {m : Md} {r : List Pr} (h : modR l = some (m, r)) : (modB1 m).length + wtL r ≤ wtL l := by
  cases l with
  | nil => cases h
  | cons p t =>
    simp only [modR] at h
    cases ho : opI p.1 with
    | none => rw [ho] at h; cases h
    | some k =>
      rw [ho] at h
      simp only at h
      by_cases hn : nxB [45] (leftR p.2 t) = true
      · rw [if_pos hn] at h
        simp only [Option.some.injEq, Prod.mk.injEq] at h
        obtain ⟨rfl, rfl⟩ := h
        have hop : opW k = p.1 := by
          unfold opI at ho
          split at ho
          · cases ho; symm; assumption
          · split at ho
            · cases ho; symm; assumption
            · split at ho
              · cases ho; symm; assumption
              · cases ho
        have h1 := lineB_up (opW k) p.2
        have h2 := valsB_up p.2 (valsR p.2 t)
        have h3 := congrArg wtL (valsR_eq p.2 t)
        rw [wtL_app] at h3
        have h4 : wtL (nxL [45] (leftR p.2 t)) + 9 ≤ wtL (leftR p.2 t) := by
          cases hl : leftR p.2 t with
          | nil => rw [hl] at hn; cases hn
          | cons q r =>
            rw [hl] at hn
            have hq : q.1 = [45] := by simpa [nxB] using hn
            simp only [nxL, hq, if_true]
            rw [wtL_cons]
            simp only [wtP, hq, List.length_singleton]
            omega
        have h5 : (modB1 (k, p.2, valsR p.2 t)).length = (lineB (opW k) p.2).length + (valsB p.2 (valsR p.2 t)).length + 2 := by
          simp [modB1]
          omega
        rw [h5, wtL_cons]
        rw [hop] at h1
        rw [hop]
        simp only [wtP]
        omega
      · rw [if_neg hn] at h; cases h
theorem modsR_up : ∀ (n : Nat) (l : List Pr), (modB (modsR n l)).length ≤ wtL l
  | 0, _ => by simp [modsR, modB]
  | n + 1, l => by
    unfold modsR
    split
    · simp [modB]
    · rename_i m r hm
      have h1 := modR_up hm
      have h2 := modsR_up n r
      have e : modB (m :: modsR n r) = modB1 m ++ modB (modsR n r) := by simp [modB]
      rw [e, List.length_append]
      omega
theorem moveB_up (c : Chg) : (moveB c).length ≤ 2 * c.newRdn.length + 2 * c.newSup.length + 100 := by
  have h1 := lineB_up [110, 101, 119, 114, 100, 110] c.newRdn
  have h2 := lineB_up [100, 101, 108, 101, 116, 101, 111, 108, 100, 114, 100, 110] (if c.delOld then [49] else [48])
  have h3 := lineB_up [110, 101, 119, 115, 117, 112, 101, 114, 105, 111, 114] c.newSup
  have h4 : (if c.delOld then ([49] : List UInt8) else [48]).length = 1 := by split <;> rfl
  unfold moveB
  simp only [List.length_append]
  simp only [List.length_cons, List.length_nil] at h1 h2 h3
  rw [h4] at h2
  generalize lineB [100, 101, 108, 101, 116, 101, 111, 108, 100, 114, 100, 110] (if c.delOld then [49] else [48]) = D at h2 ⊢
  split
  · omega
  · simp only [List.length_nil]; omega
theorem record_up (l : List Pr) : (textC (recordR l)).length ≤ 10 * wtL l + 1000 := by
  have a0 := nxV_up wTime l
  have b0 := nxL_up wTime l
  have a1 := nxV_up wWho (nxL wTime l)
  have b1 := nxL_up wWho (nxL wTime l)
  have a2 := nxV_up wDn (nxL wWho (nxL wTime l))
  have b2 := nxL_up wDn (nxL wWho (nxL wTime l))
  have b3 := nxL_up wType (nxL wDn (nxL wWho (nxL wTime l)))
  obtain ⟨l4, hl4⟩ : ∃ x, nxL wType (nxL wDn (nxL wWho (nxL wTime l))) = x := ⟨_, rfl⟩
  have a5 := nxV_up wRdn l4
  have b5 := nxL_up wRdn l4
  have b6 := nxL_up wOld (nxL wRdn l4)
  have a7 := nxV_up wSup (nxL wOld (nxL wRdn l4))
  have e1 := addR_up l4 []
  have e2 := modsR_up l4.length l4
  rw [hl4] at b3
  obtain ⟨c, hc⟩ : ∃ c, recordR l = c := ⟨_, rfl⟩
  have t0 : c.time = nxV wTime l := by rw [← hc]; rfl
  have t1 : c.who = nxV wWho (nxL wTime l) := by rw [← hc]; rfl
  have t2 : c.dn = nxV wDn (nxL wWho (nxL wTime l)) := by rw [← hc]; rfl
  have t4 : c.attrs = if c.kind = 0 then addR l4 [] else [] := by rw [← hc, ← hl4]; rfl
  have t5 : c.mods = if c.kind = 2 then modsR l4.length l4 else [] := by rw [← hc, ← hl4]; rfl
  have t6 : c.newRdn = if c.kind = 3 then nxV wRdn l4 else [] := by rw [← hc, ← hl4]; rfl
  have t7 : c.newSup = if c.kind = 3 then nxV wSup (nxL wOld (nxL wRdn l4)) else [] := by rw [← hc, ← hl4]; rfl
  rw [hc]
  have h1 := lineB_up [116, 105, 109, 101] c.time
  have h2 := lineB_up [119, 104, 111] c.who
  have h3 := lineB_up [100, 110] c.dn
  have h4 := lineB_up [99, 104, 97, 110, 103, 101, 116, 121, 112, 101] (kindW c.kind)
  have h5 : (kindW c.kind).length ≤ 10 := by unfold kindW; split <;> (try split) <;> (try split) <;> simp
  have h6 := moveB_up c
  have h7 : (restC c).length ≤ 4 * wtL l + 200 := by
    unfold restC
    split
    · rename_i hk
      rw [t4, if_pos hk]
      have : (attrB []).length = 0 := rfl
      omega
    · split
      · rename_i hk
        rw [t5, if_pos hk]
        omega
      · split
        · rename_i hk
          rw [if_pos hk] at t6 t7
          rw [t6, t7] at h6
          omega
        · simp
  have h8 : (textC c).length = (lineB [116, 105, 109, 101] c.time).length + (lineB [119, 104, 111] c.who).length + (lineB [100, 110] c.dn).length + (lineB [99, 104, 97, 110, 103, 101, 116, 121, 112, 101] (kindW c.kind)).length + (restC c).length + 1 := by
    simp [textC, headC]; omega
  rw [t0] at h1
  rw [t1] at h2
  rw [t2] at h3
  rw [h8, t0, t1, t2]
  simp only [List.length_cons, List.length_nil] at h1 h2 h3 h4
  omega
end Go.Proofs.YtehpdodjncabkaaDoor
