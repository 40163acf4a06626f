/- PlainRd, LdG, LdH. -/
import Derived.Deep.CutBlock
import Derived.Deep.DeepCutAuto
import Derived.Deep.CutRange
import Derived.Test.YtegigcneimjimaaGreatDoorU2
namespace Go.Proofs.YtegigcneimjimaaGreatDoor
open Go.Lib
open Go.RowKit Go.Lib
set_option maxRecDepth 100000
set_option maxHeartbeats 16000000
abbrev Pr := List UInt8 × List UInt8
def cutL : List UInt8 → List (List UInt8)
  | [] => [[]]
  | c :: t => if c = 10 then [] :: cutL t else match cutL t with
    | [] => [[c]]
    | p :: ps => (c :: p) :: ps
theorem cutL_line : ∀ (p t : List UInt8), (∀ c ∈ p, c ≠ 10) → cutL (p ++ 10 :: t) = p :: cutL t
  | [], t, _ => by simp [cutL]
  | c :: p, t, h => by
    have ih := cutL_line p t (fun d hd => h d (by simp [hd]))
    simp only [List.cons_append, cutL]
    rw [if_neg (h c (by simp)), ih]
def pairV (v : List UInt8) : Option (List UInt8) :=
  if hasPrefix v [58, 32] then unb (trimPrefix (trimPrefix v [58]) [32]) else some (trimPrefix (trimPrefix v [58]) [32])
def pairB (s : List UInt8) : Pr :=
  (if ((cut s [58]).2.2 && (pairV (cut s [58]).2.1).isSome) = false ∧ s ≠ [45] ∧ s ≠ [] then [] else (cut s [58]).1, (pairV (cut s [58]).2.1).getD [])
def nxV (n : List UInt8) : List Pr → List UInt8
  | p :: _ => if p.1 = n then p.2 else []
  | [] => []
def nxB (n : List UInt8) : List Pr → Bool
  | p :: _ => p.1 == n
  | [] => false
def nxL (n : List UInt8) : List Pr → List Pr
  | p :: t => if p.1 = n then t else p :: t
  | [] => []
def opI (s : List UInt8) : Option Int := if s = opW 0 then some 0 else if s = opW 1 then some 1 else if s = opW 2 then some 2 else none
def valsR (t : List UInt8) (l : List Pr) : List (List UInt8) := (l.takeWhile (fun p => p.1 == t)).map Prod.snd
def leftR (t : List UInt8) (l : List Pr) : List Pr := l.dropWhile (fun p => p.1 == t)
def modR : List Pr → Option (Md × List Pr)
  | [] => none
  | p :: t => match opI p.1 with
    | none => none
    | some k => if nxB [45] (leftR p.2 t) then some ((k, p.2, valsR p.2 t), nxL [45] (leftR p.2 t)) else none
theorem leftR_le (t : List UInt8) (l : List Pr) : (leftR t l).length ≤ l.length := by
  unfold leftR; exact (List.dropWhile_sublist _).length_le
theorem nxL_le (n : List UInt8) (l : List Pr) : (nxL n l).length ≤ l.length := by
  cases l with
  | nil => simp [nxL]
  | cons p t =>
    simp only [nxL]
    split <;> simp
theorem modR_lt (l : List Pr) (m : Md) (r : List Pr) (h : modR l = some (m, r)) : r.length < l.length := by
  cases l with
  | nil => simp [modR] at h
  | cons p t =>
    simp only [modR] at h
    cases ho : opI p.1 with
    | none => rw [ho] at h; simp at h
    | some k =>
      rw [ho] at h
      simp only at h
      by_cases hn : nxB [45] (leftR p.2 t) = true
      · rw [if_pos hn] at h
        simp only [Option.some.injEq, Prod.mk.injEq] at h
        rw [← h.2]
        have h1 := nxL_le [45] (leftR p.2 t)
        have h2 := leftR_le p.2 t
        simp only [List.length_cons]
        omega
      · rw [if_neg hn] at h; cases h
def modsR : Nat → List Pr → List Md
  | 0, _ => []
  | n + 1, l => match modR l with
    | none => []
    | some (m, r) => m :: modsR n r
theorem modsR_fuel : ∀ (n m : Nat) (l : List Pr), l.length ≤ n → l.length ≤ m → modsR n l = modsR m l
  | 0, 0, _, _, _ => rfl
  | 0, m + 1, l, h, _ => by
    have e : l = [] := List.length_eq_zero_iff.1 (by omega)
    subst e; rfl
  | n + 1, 0, l, _, h => by
    have e : l = [] := List.length_eq_zero_iff.1 (by omega)
    subst e; rfl
  | n + 1, m + 1, l, h1, h2 => by
    unfold modsR
    split
    · rfl
    · rename_i m' r hm
      have := modR_lt l m' r hm
      rw [modsR_fuel n m r (by omega) (by omega)]
def putA (p : Pr) (acc : List At) : List At :=
  match acc.getLast? with
  | some a => if a.1 = p.1 then acc.dropLast ++ [(a.1, a.2 ++ [p.2])] else acc ++ [(p.1, [p.2])]
  | none => [(p.1, [p.2])]
def addR : List Pr → List At → List At
  | [], acc => acc
  | p :: t, acc => if p.1 = [] then acc else addR t (putA p acc)
def kindI (s : List UInt8) : Int := if s = kindW 3 then 3 else if s = kindW 2 then 2 else if s = kindW 1 then 1 else 0
def wTime : List UInt8 := [116, 105, 109, 101]
def wWho : List UInt8 := [119, 104, 111]
def wDn : List UInt8 := [100, 110]
def wType : List UInt8 := [99, 104, 97, 110, 103, 101, 116, 121, 112, 101]
def wRdn : List UInt8 := [110, 101, 119, 114, 100, 110]
def wOld : List UInt8 := [100, 101, 108, 101, 116, 101, 111, 108, 100, 114, 100, 110]
def wSup : List UInt8 := [110, 101, 119, 115, 117, 112, 101, 114, 105, 111, 114]
def recordR (l : List Pr) : Chg :=
  let l1 := nxL wTime l
  let l2 := nxL wWho l1
  let l3 := nxL wDn l2
  let l4 := nxL wType l3
  let k := kindI (nxV wType l3)
  let m1 := nxL wRdn l4
  let m2 := nxL wOld m1
  ⟨nxV wTime l, nxV wWho l1, nxV wDn l2, k, if k = 0 then addR l4 [] else [], if k = 2 then modsR l4.length l4 else [],
    if k = 3 then nxV wRdn l4 else [], if k = 3 then nxV wSup m2 else [], decide (k = 3) && decide (nxV wOld m1 = [49]), decide (k = 3) && nxB wSup m2⟩
def parseC (s : List UInt8) : Option Chg :=
  if 65536 < s.length then none
  else if printC (recordR ((cutL s).map pairB)) = (s, 0) then some (recordR ((cutL s).map pairB)) else none
/- lines -/
def lineP (name v : List UInt8) : List UInt8 := if plainB v then name ++ [58, 32] ++ v else name ++ [58, 58, 32] ++ b64 v
theorem lineB_P (name v : List UInt8) : lineB name v = lineP name v ++ [10] := by
  unfold lineB lineP; split <;> simp
def noSep (s : List UInt8) : Prop := s ≠ [] ∧ ∀ c ∈ s, c ≠ 10 ∧ c ≠ 58
theorem b64_chars : ∀ (n : Nat) (l : List UInt8), l.length ≤ n → ∀ c ∈ b64 l, c ≠ 10
  | 0, l, h, c, hc => by
    have e : l = [] := List.length_eq_zero_iff.1 (by omega)
    subst e; simp [b64_nil] at hc
  | n + 1, l, h, c, hc => by
    by_cases e : l = []
    · subst e; simp [b64_nil] at hc
    · rw [b64_step l e] at hc
      have hd : ∀ k, k < 64 → dig k ≠ 10 := by decide +kernel
      rcases List.mem_append.1 hc with h1 | h1
      · have hx : ∀ i, qd l i ≠ 10 := by
          intro i
          unfold qd
          split
          · decide
          · exact hd _ (Nat.mod_lt _ (by omega))
        rw [quad_qd l e] at h1
        simp only [List.mem_cons, List.not_mem_nil, or_false] at h1
        rcases h1 with rfl | rfl | rfl | rfl <;> exact hx _
      · refine b64_chars n (l.drop 3) ?_ c h1
        have : 0 < l.length := List.length_pos_iff.2 e
        simp only [List.length_drop]; omega
theorem lineP_no (name v : List UInt8) (h : noSep name) : ∀ c ∈ lineP name v, c ≠ 10 := by
  intro c hc
  unfold lineP at hc
  split at hc
  · rename_i hp
    simp only [List.mem_append, List.mem_cons, List.not_mem_nil, or_false] at hc
    rcases hc with (h1 | h1 | h1) | h1
    · exact (h.2 c h1).1
    · subst h1; decide
    · subst h1; decide
    · simp only [plainB, Bool.and_eq_true, List.all_eq_true] at hp
      have := hp.2 c h1
      simp only [okB, decide_eq_true_eq] at this
      intro e; subst e; simp at this
  · simp only [List.mem_append, List.mem_cons, List.not_mem_nil, or_false] at hc
    rcases hc with (h1 | h1 | h1 | h1) | h1
    · exact (h.2 c h1).1
    · subst h1; decide
    · subst h1; decide
    · subst h1; decide
    · exact b64_chars _ v (Nat.le_refl _) c h1
theorem cutL_lineB (name v t : List UInt8) (h : noSep name) : cutL (lineB name v ++ t) = lineP name v :: cutL t := by
  rw [lineB_P, List.append_assoc]
  exact cutL_line _ _ (lineP_no name v h)
theorem cut_name (n t : List UInt8) (h : ∀ c ∈ n, c ≠ 58) : cut (n ++ 58 :: t) [58] = (n, t, true) := by
  have e : index (n ++ 58 :: t) [58] = (n.length : Int) := by
    rw [index_one]
    induction n with
    | nil => simp [indexByte]
    | cons c n ih =>
      have ih' := ih (fun d hd => h d (by simp [hd]))
      have hc : c ≠ 58 := h c (by simp)
      simp only [List.cons_append, indexByte, List.length_cons]
      rw [if_neg (by simpa using hc), ih']
      simp
  unfold cut
  rw [e]
  simp
theorem pairB_line (name v : List UInt8) (h : noSep name) : pairB (lineP name v) = (name, v) := by
  have hn : ∀ c ∈ name, c ≠ 58 := fun c hc => (h.2 c hc).2
  unfold lineP
  split
  · have e : name ++ [58, 32] ++ v = name ++ 58 :: (32 :: v) := by simp
    rw [e]
    unfold pairB
    rw [cut_name name _ hn]
    have e2 : pairV (32 :: v) = some v := by
      simp [pairV, hasPrefix, trimPrefix]
    simp [e2]
  · have e : name ++ [58, 58, 32] ++ b64 v = name ++ 58 :: (58 :: 32 :: b64 v) := by simp
    rw [e]
    unfold pairB
    rw [cut_name name _ hn]
    have e2 : pairV (58 :: 32 :: b64 v) = some v := by
      simp [pairV, hasPrefix, trimPrefix, unb_b64]
    simp [e2]
theorem pairB_dash : pairB [45] = ([45], []) := by decide +kernel
/- what the lines of a record are read as -/
def attrPs (al : List At) : List Pr := al.flatMap fun a => a.2.map fun v => (a.1, v)
def modPs1 (m : Md) : List Pr := (opW m.1, m.2.1) :: (m.2.2.map fun v => (m.2.1, v)) ++ [([45], [])]
def modPs (ms : List Md) : List Pr := ms.flatMap modPs1
def movePs (c : Chg) : List Pr := [(wRdn, c.newRdn), (wOld, if c.delOld then [49] else [48])] ++ if c.hasSup then [(wSup, c.newSup)] else []
def restPs (c : Chg) : List Pr := if c.kind = 0 then attrPs c.attrs else if c.kind = 2 then modPs c.mods else if c.kind = 3 then movePs c else []
def headPs (c : Chg) : List Pr := [(wTime, c.time), (wWho, c.who), (wDn, c.dn), (wType, kindW c.kind)]
def endPs : List Pr := [([], []), ([], [])]
theorem reads_line (name v t : List UInt8) (h : noSep name) : (cutL (lineB name v ++ t)).map pairB = (name, v) :: (cutL t).map pairB := by
  rw [cutL_lineB name v t h, List.map_cons, pairB_line name v h]
theorem reads_vals (n : List UInt8) (h : noSep n) : ∀ (vs : List (List UInt8)) (t : List UInt8), (cutL (valsB n vs ++ t)).map pairB = (vs.map fun v => (n, v)) ++ (cutL t).map pairB
  | [], t => by simp [valsB]
  | v :: vs, t => by
    have ih := reads_vals n h vs t
    have e : valsB n (v :: vs) = lineB n v ++ valsB n vs := by simp [valsB]
    rw [e, List.append_assoc, reads_line n v _ h, ih]
    simp
theorem reads_attrs : ∀ (al : List At) (t : List UInt8), (∀ a ∈ al, noSep a.1) → (cutL (attrB al ++ t)).map pairB = attrPs al ++ (cutL t).map pairB
  | [], t, _ => by simp [attrB, attrPs]
  | a :: al, t, h => by
    have ih := reads_attrs al t (fun b hb => h b (by simp [hb]))
    have e : attrB (a :: al) = valsB a.1 a.2 ++ attrB al := by simp [attrB]
    rw [e, List.append_assoc, reads_vals a.1 (h a (by simp)), ih]
    simp [attrPs]
theorem opW_sep (k : Int) : noSep (opW k) := by
  unfold opW
  split
  · exact ⟨by decide, by decide⟩
  · split
    · exact ⟨by decide, by decide⟩
    · exact ⟨by decide, by decide⟩
theorem reads_mods : ∀ (ms : List Md) (t : List UInt8), (∀ m ∈ ms, noSep m.2.1) → (cutL (modB ms ++ t)).map pairB = modPs ms ++ (cutL t).map pairB
  | [], t, _ => by simp [modB, modPs]
  | m :: ms, t, h => by
    have ih := reads_mods ms t (fun b hb => h b (by simp [hb]))
    have e : modB (m :: ms) ++ t = lineB (opW m.1) m.2.1 ++ (valsB m.2.1 m.2.2 ++ ([45] ++ 10 :: (modB ms ++ t))) := by simp [modB, modB1]
    rw [e, reads_line _ _ _ (opW_sep m.1), reads_vals _ (h m (by simp)), cutL_line [45] _ (by decide), List.map_cons, ih, pairB_dash]
    simp [modPs, modPs1]
theorem reads_move (c : Chg) (t : List UInt8) : (cutL (moveB c ++ t)).map pairB = movePs c ++ (cutL t).map pairB := by
  have h1 : noSep wRdn := ⟨by decide, by decide⟩
  have h2 : noSep wOld := ⟨by decide, by decide⟩
  have h3 : noSep wSup := ⟨by decide, by decide⟩
  unfold moveB movePs
  cases hs : c.hasSup
  · simp only [List.append_assoc, Bool.false_eq_true, if_false, List.nil_append]
    rw [show ([110, 101, 119, 114, 100, 110] : List UInt8) = wRdn from rfl, show ([100, 101, 108, 101, 116, 101, 111, 108, 100, 114, 100, 110] : List UInt8) = wOld from rfl, reads_line _ _ _ h1, reads_line _ _ _ h2]
    simp
  · simp only [List.append_assoc, if_true]
    rw [show ([110, 101, 119, 114, 100, 110] : List UInt8) = wRdn from rfl, show ([100, 101, 108, 101, 116, 101, 111, 108, 100, 114, 100, 110] : List UInt8) = wOld from rfl, show ([110, 101, 119, 115, 117, 112, 101, 114, 105, 111, 114] : List UInt8) = wSup from rfl, reads_line _ _ _ h1, reads_line _ _ _ h2, reads_line _ _ _ h3]
    simp
theorem num_chars : ∀ (s cur : List UInt8) (p : Nat), numGo s cur p = true → ∀ c ∈ s, inTyB c = true
  | [], _, _, _ => fun c hc => by cases hc
  | x :: t, cur, p, h => by
    intro c hc
    rw [numGo] at h
    by_cases hd : digB x = true
    · rw [if_pos hd] at h
      rcases List.mem_cons.1 hc with rfl | hc
      · simp [inTyB, hd]
      · exact num_chars t _ _ h c hc
    · rw [if_neg hd] at h
      split at h
      · rename_i h2
        simp at h2
        rcases List.mem_cons.1 hc with rfl | hc
        · simp [inTyB, h2.2]
        · exact num_chars t _ _ h c hc
      · cases h
theorem type_sep {t : List UInt8} (h : isTyB t = true) : noSep t ∧ t ≠ [45] := by
  have hk : t ≠ [45] := by
    rintro rfl
    exact absurd h (by decide +kernel)
  have h2 : ∀ c ∈ t, inTyB c = true := by
    unfold isTyB at h
    split at h
    · cases h
    · split at h
      · intro c hc
        have := List.all_eq_true.1 h c hc
        simp only [Bool.and_eq_true] at this
        exact this.1
      · rw [oid_numGo] at h
        exact num_chars t [] 0 h
  refine ⟨⟨?_, ?_⟩, hk⟩
  · rintro rfl
    exact absurd h (by decide +kernel)
  · intro c hc
    have := h2 c hc
    constructor <;> (rintro rfl; exact absurd this (by decide))
theorem addR_vals (n : List UInt8) (hn : n ≠ []) (acc : List At) (t : List Pr) : ∀ (vs us : List (List UInt8)), addR ((vs.map fun v => (n, v)) ++ t) (acc ++ [(n, us)]) = addR t (acc ++ [(n, us ++ vs)])
  | [], us => by simp
  | v :: vs, us => by
    have ih := addR_vals n hn acc t vs (us ++ [v])
    simp only [List.map_cons, List.cons_append, addR]
    rw [if_neg hn]
    have e : putA (n, v) (acc ++ [(n, us)]) = acc ++ [(n, us ++ [v])] := by simp [putA]
    rw [e, ih]
    simp
theorem addR_attrs : ∀ (al acc : List At) (p : Option (List UInt8)), attrsOk p al = true → p = acc.getLast?.map Prod.fst → addR (attrPs al ++ endPs) acc = acc ++ al
  | [], acc, p, _, _ => by simp [attrPs, endPs, addR]
  | a :: al, acc, p, h, hp => by
    simp only [attrsOk, Bool.and_eq_true, Bool.not_eq_true'] at h
    obtain ⟨⟨⟨h1, h2⟩, h3⟩, h4⟩ := h
    obtain ⟨n, vs⟩ := a
    have hn : n ≠ [] := (type_sep h1).1.1
    cases vs with
    | nil => simp at h2
    | cons v vs =>
      have e : attrPs ((n, v :: vs) :: al) ++ endPs = (n, v) :: ((vs.map fun v => (n, v)) ++ (attrPs al ++ endPs)) := by simp [attrPs]
      rw [e, addR, if_neg hn]
      have e2 : putA (n, v) acc = acc ++ [(n, [v])] := by
        unfold putA
        split
        · rename_i a ha
          rw [if_neg]
          rintro rfl
          subst hp
          rw [ha] at h3
          simp at h3
        · rename_i ha
          rw [List.getLast?_eq_none_iff] at ha
          subst ha
          rfl
      rw [e2, addR_vals n hn acc _ vs [v], addR_attrs al (acc ++ [(n, [v] ++ vs)]) (some n) h4 (by simp)]
      simp
theorem takeWhile_vals (n : List UInt8) (q : Pr) (t : List Pr) (hq : q.1 ≠ n) : ∀ vs : List (List UInt8), valsR n ((vs.map fun v => (n, v)) ++ q :: t) = vs ∧ leftR n ((vs.map fun v => (n, v)) ++ q :: t) = q :: t
  | [] => by
    have : (q.1 == n) = false := by simpa using hq
    simp [valsR, leftR, this]
  | v :: vs => by
    obtain ⟨h1, h2⟩ := takeWhile_vals n q t hq vs
    unfold valsR at h1 ⊢
    unfold leftR at h2 ⊢
    simp only [List.map_cons, List.cons_append, List.takeWhile_cons, List.dropWhile_cons, beq_self_eq_true, if_true]
    exact ⟨by rw [h1], h2⟩
theorem opI_W (k : Int) (h0 : 0 ≤ k) (h2 : k ≤ 2) : opI (opW k) = some k := by
  have h : k = 0 ∨ k = 1 ∨ k = 2 := by omega
  rcases h with rfl | rfl | rfl <;> decide
theorem modR_one (m : Md) (t : List Pr) (h0 : 0 ≤ m.1) (h2 : m.1 ≤ 2) (hd : m.2.1 ≠ [45]) : modR (modPs1 m ++ t) = some (m, t) := by
  obtain ⟨k, n, vs⟩ := m
  have e : modPs1 (k, n, vs) ++ t = (opW k, n) :: ((vs.map fun v => (n, v)) ++ ([45], []) :: t) := by simp [modPs1]
  rw [e]
  obtain ⟨e1, e2⟩ := takeWhile_vals n ([45], []) t (fun h => hd h.symm) vs
  simp only [modR, opI_W k h0 h2, e1, e2]
  simp [nxB, nxL]
theorem modsR_all : ∀ (ms : List Md) (n : Nat), (∀ m ∈ ms, (0 ≤ m.1 ∧ m.1 ≤ 2) ∧ m.2.1 ≠ [45]) → (modPs ms ++ endPs).length ≤ n → modsR n (modPs ms ++ endPs) = ms
  | [], n, _, h => by
    cases n with
    | zero => rfl
    | succ n =>
      have : modR (modPs [] ++ endPs) = none := by decide
      rw [modsR, this]
  | m :: ms, n, hm, h => by
    obtain ⟨⟨h0, h2⟩, hd⟩ := hm m (by simp)
    have e : modPs (m :: ms) ++ endPs = modPs1 m ++ (modPs ms ++ endPs) := by simp [modPs]
    rw [e] at h ⊢
    cases n with
    | zero => simp [modPs1] at h
    | succ n =>
      rw [modsR, modR_one m _ h0 h2 hd]
      have ih := modsR_all ms n (fun x hx => hm x (by simp [hx])) (by
        simp only [modPs1, List.length_append, List.length_cons, List.length_map] at h ⊢
        omega)
      simp only [ih]
theorem kindI_W (k : Int) (h0 : 0 ≤ k) (h3 : k ≤ 3) : kindI (kindW k) = k := by
  have h : k = 0 ∨ k = 1 ∨ k = 2 ∨ k = 3 := by omega
  rcases h with rfl | rfl | rfl | rfl <;> decide
theorem attrs_types : ∀ (al : List At) (p : Option (List UInt8)), attrsOk p al = true → ∀ a ∈ al, isTyB a.1 = true
  | [], _, _ => fun a ha => by cases ha
  | a :: al, p, h => by
    simp only [attrsOk, Bool.and_eq_true] at h
    intro b hb
    rcases List.mem_cons.1 hb with rfl | hb
    · exact h.1.1.1
    · exact attrs_types al _ h.2 b hb
theorem mods_types (ms : List Md) (h : modsOk ms = true) : ∀ m ∈ ms, (0 ≤ m.1 ∧ m.1 ≤ 2) ∧ isTyB m.2.1 = true := by
  intro m hm
  have := List.all_eq_true.1 h m hm
  simp only [Bool.and_eq_true, decide_eq_true_eq] at this
  exact this
theorem text_pairs (c : Chg) (h : rightC c = true) : (cutL (textC c)).map pairB = headPs c ++ (restPs c ++ endPs) := by
  simp only [rightC, Bool.and_eq_true] at h
  obtain ⟨⟨_, ha⟩, hm⟩ := h
  have h1 : noSep wTime := ⟨by decide, by decide⟩
  have h2 : noSep wWho := ⟨by decide, by decide⟩
  have h3 : noSep wDn := ⟨by decide, by decide⟩
  have h4 : noSep wType := ⟨by decide, by decide⟩
  have e0 : (cutL ([10] : List UInt8)).map pairB = endPs := by decide +kernel
  have er : (cutL (restC c ++ [10])).map pairB = restPs c ++ endPs := by
    unfold restC restPs
    split
    · rw [reads_attrs _ _ (fun a hx => (type_sep (attrs_types _ _ ha a hx)).1), e0]
    · split
      · rw [reads_mods _ _ (fun m hx => (type_sep (mods_types _ hm m hx).2).1), e0]
      · split
        · rw [reads_move, e0]
        · rw [List.nil_append, e0]; rfl
  have e : textC c = lineB wTime c.time ++ (lineB wWho c.who ++ (lineB wDn c.dn ++ (lineB wType (kindW c.kind) ++ (restC c ++ [10])))) := by
    simp only [textC, headC, List.append_assoc]
    rfl
  rw [e, reads_line _ _ _ h1, reads_line _ _ _ h2, reads_line _ _ _ h3, reads_line _ _ _ h4, er]
  rfl
theorem record_back (c : Chg) (h : rightC c = true) : recordR ((cutL (textC c)).map pairB) = c := by
  rw [text_pairs c h]
  simp only [rightC, Bool.and_eq_true] at h
  obtain ⟨⟨ho, ha⟩, hm⟩ := h
  obtain ⟨time, who, dn, kind, attrs, mods, newRdn, newSup, delOld, hasSup⟩ := c
  simp only [onlyC, Bool.and_eq_true, Bool.or_eq_true, Bool.not_eq_true', decide_eq_true_eq, List.isEmpty_iff] at ho
  obtain ⟨⟨⟨⟨⟨h0, h3⟩, hA⟩, hM⟩, hS⟩, hR⟩ := ho
  simp only at h0 h3 hA hM hS hR ha hm
  have hk : kind = 0 ∨ kind = 1 ∨ kind = 2 ∨ kind = 3 := by omega
  have e1 : nxV wTime (headPs ⟨time, who, dn, kind, attrs, mods, newRdn, newSup, delOld, hasSup⟩ ++ (restPs ⟨time, who, dn, kind, attrs, mods, newRdn, newSup, delOld, hasSup⟩ ++ endPs)) = time := by simp [headPs, nxV]
  rcases hk with rfl | rfl | rfl | rfl
  · have hm0 : mods = [] := by simpa using hM
    have hr : (newRdn = [] ∧ delOld = false) ∧ hasSup = false := by simpa using hR
    obtain ⟨⟨rfl, rfl⟩, rfl⟩ := hr
    have hs : newSup = [] := by simpa using hS
    subst hm0 hs
    have hadd := addR_attrs attrs [] none ha rfl
    simp only [recordR, headPs, restPs, nxL, nxV, List.cons_append, List.nil_append, if_true]
    simp only [if_true, kindI_W 0 (by decide) (by decide)]
    simp [hadd]
  · have hm0 : mods = [] := by simpa using hM
    have ha0 : attrs = [] := by simpa using hA
    have hr : (newRdn = [] ∧ delOld = false) ∧ hasSup = false := by simpa using hR
    obtain ⟨⟨rfl, rfl⟩, rfl⟩ := hr
    have hs : newSup = [] := by simpa using hS
    subst hm0 hs ha0
    simp only [recordR, headPs, restPs, nxL, nxV, List.cons_append, List.nil_append, if_true]
    simp only [kindI_W 1 (by decide) (by decide)]
    simp
  · have ha0 : attrs = [] := by simpa using hA
    have hr : (newRdn = [] ∧ delOld = false) ∧ hasSup = false := by simpa using hR
    obtain ⟨⟨rfl, rfl⟩, rfl⟩ := hr
    have hs : newSup = [] := by simpa using hS
    subst hs ha0
    have hmods := modsR_all mods (modPs mods ++ endPs).length (fun m hx => ⟨(mods_types _ hm m hx).1, (type_sep (mods_types _ hm m hx).2).2⟩) (Nat.le_refl _)
    simp only [recordR, headPs, restPs, nxL, nxV, List.cons_append, List.nil_append, if_true]
    simp only [if_true, kindI_W 2 (by decide) (by decide)]
    rw [List.length_append] at hmods
    simp [hmods]
  · have hm0 : mods = [] := by simpa using hM
    have ha0 : attrs = [] := by simpa using hA
    subst hm0 ha0
    simp only [recordR, headPs, restPs, nxL, nxV, List.cons_append, List.nil_append, if_true]
    simp only [if_true, kindI_W 3 (by decide) (by decide)]
    cases hasSup
    · have hs : newSup = [] := by simpa using hS
      subst hs
      cases delOld <;> simp [movePs, nxB, endPs, wRdn, wOld, wSup]
    · cases delOld <;> simp [movePs, nxB, endPs, wRdn, wOld, wSup]
theorem printC_text {c : Chg} {s : List UInt8} (h : printC c = (s, 0)) : rightC c = true ∧ s = textC c ∧ s.length ≤ 65536 := by
  unfold printC at h
  split at h
  · simp at h
  · rename_i hr
    split at h
    · simp at h
    · rename_i hl
      simp only [Prod.mk.injEq, and_true] at h
      subst h
      exact ⟨by simpa using hr, rfl, by omega⟩
theorem parse_back {c : Chg} {s : List UInt8} (h : printC c = (s, 0)) : parseC s = some c := by
  obtain ⟨hr, rfl, hl⟩ := printC_text h
  unfold parseC
  rw [if_neg (by omega), record_back c hr, if_pos h]
theorem parse_prints {c : Chg} {s : List UInt8} (h : parseC s = some c) : printC c = (s, 0) := by
  unfold parseC at h
  split at h
  · cases h
  · split at h
    · rename_i hp
      simp only [Option.some.injEq] at h
      rw [← h]; exact hp
    · cases h
theorem right_kind (kd : Int) (sT sW sD sR sS : List UInt8) (aA aM : _) (nA cA nM cM : Nat) (dO hS : Bool) (w : World) (h : kd < 0 ∨ 3 < kd) :
    Calls Tryz.prog 131 #[.agg #[.string ⟨sT.toArray⟩, .string ⟨sW.toArray⟩, .string ⟨sD.toArray⟩, .int .i64 kd, .slice aA nA cA, .slice aM nM cM, .string ⟨sR.toArray⟩, .string ⟨sS.toArray⟩, .bool dO, .bool hS]] w fun e w' => e = .returned (.bool false) ∧ Below w.heap.size w w' := by
  rcases h with h | h
  · have d1 : decide (kd < 0) = true := decide_eq_true h
    go_enter Tryz.func131, Tryz.ntmps131
    go_wp2_with fail
    go_ret
    exact ⟨rfl, by first | exact Below.refl _ _ | exact Below.drew ((Below.refl _ _).alloc (Nat.le_refl _) _) | exact Below.drew (Below.drew ((Below.refl _ _).alloc (Nat.le_refl _) _)) | exact (Below.refl _ _).alloc (Nat.le_refl _) _⟩
  · have d1 : decide (kd < 0) = false := decide_eq_false (by omega)
    have d2 : decide (3 < kd) = true := decide_eq_true h
    go_enter Tryz.func131, Tryz.ntmps131
    go_wp2_with fail
    go_ret
    exact ⟨rfl, by first | exact Below.refl _ _ | exact Below.drew ((Below.refl _ _).alloc (Nat.le_refl _) _) | exact Below.drew (Below.drew ((Below.refl _ _).alloc (Nat.le_refl _) _)) | exact (Below.refl _ _).alloc (Nat.le_refl _) _⟩
theorem right_three (kd : Int) (sT sW sD sR sS : List UInt8) (aA aM : _) (nA cA nM cM : Nat) (dO hS : Bool) (w : World) (h0 : 0 ≤ kd) (h3 : kd ≤ 3)
    (h : kd ≠ 0 ∧ 0 < nA ∨ kd ≠ 2 ∧ 0 < nM ∨ sS ≠ [] ∧ hS = false) :
    Calls Tryz.prog 131 #[.agg #[.string ⟨sT.toArray⟩, .string ⟨sW.toArray⟩, .string ⟨sD.toArray⟩, .int .i64 kd, .slice aA nA cA, .slice aM nM cM, .string ⟨sR.toArray⟩, .string ⟨sS.toArray⟩, .bool dO, .bool hS]] w fun e w' => e = .returned (.bool false) ∧ Below w.heap.size w w' := by
  have d1 : decide (kd < 0) = false := decide_eq_false (by omega)
  have d2 : decide (3 < kd) = false := decide_eq_false (by omega)
  have HH := Lib.hid h
  clear h
  go_enter Tryz.func131, Tryz.ntmps131
  go_upto_region 5 with fail
  all_goals
    first
    | go_ret
      exact ⟨rfl, (Below.refl _ _).alloc (Nat.le_refl _) _⟩
    | exfalso
      have h := HH.out
      clear HH
      rcases h with ⟨ha, hb⟩ | ⟨ha, hb⟩ | ⟨ha, hb⟩
      all_goals first | omega | simp_all
theorem right_five (kd : Int) (sT sW sD sR sS : List UInt8) (aA aM : _) (nA cA nM cM : Nat) (dO hS : Bool) (w : World) (h0 : 0 ≤ kd) (h3 : kd ≤ 3)
    (h : kd ≠ 3 ∧ (sR ≠ [] ∨ dO = true ∨ hS = true)) :
    Calls Tryz.prog 131 #[.agg #[.string ⟨sT.toArray⟩, .string ⟨sW.toArray⟩, .string ⟨sD.toArray⟩, .int .i64 kd, .slice aA nA cA, .slice aM nM cM, .string ⟨sR.toArray⟩, .string ⟨sS.toArray⟩, .bool dO, .bool hS]] w fun e w' => e = .returned (.bool false) ∧ Below w.heap.size w w' := by
  have d1 : decide (kd < 0) = false := decide_eq_false (by omega)
  have d2 : decide (3 < kd) = false := decide_eq_false (by omega)
  have HH := Lib.hid h
  clear h
  go_enter Tryz.func131, Tryz.ntmps131
  go_upto_region 5 with fail
  all_goals
    first
    | go_ret
      exact ⟨rfl, (Below.refl _ _).alloc (Nat.le_refl _) _⟩
    | go_upto_region 7 with fail
  all_goals
    first
    | go_ret
      exact ⟨rfl, (Below.refl _ _).alloc (Nat.le_refl _) _⟩
    | exfalso
      have h := HH.out
      clear HH
      obtain ⟨ha, hb | hb | hb⟩ := h
      all_goals first | omega | simp_all
theorem right_gone (sT sW sD : List UInt8) (aA aM : _) (cA cM : Nat) (w : World) :
    Calls Tryz.prog 131 #[.agg #[.string ⟨sT.toArray⟩, .string ⟨sW.toArray⟩, .string ⟨sD.toArray⟩, .int .i64 1, .slice aA 0 cA, .slice aM 0 cM, .string ⟨#[]⟩, .string ⟨#[]⟩, .bool false, .bool false]] w fun e w' => e = .returned (.bool true) ∧ Below w.heap.size w w' := by
  go_enter Tryz.func131, Tryz.ntmps131
  go_wp2_with fail
  go_loop [64] (fun i => i = .int .i64 0) (fun _ => 0)
  case atStart => rfl
  case round =>
    subst hrel
    go_wp2_with fail
    go_loop [99] (fun i => i = .int .i64 0) (fun _ => 0)
    case atStart => rfl
    case round =>
      subst hrel
      go_wp2_with fail
      go_ret
      exact ⟨rfl, (Below.refl _ _).alloc (Nat.le_refl _) _⟩
theorem right_moved (sT sW sD sR : List UInt8) (aA aM : _) (cA cM : Nat) (dO : Bool) (w : World) :
    Calls Tryz.prog 131 #[.agg #[.string ⟨sT.toArray⟩, .string ⟨sW.toArray⟩, .string ⟨sD.toArray⟩, .int .i64 3, .slice aA 0 cA, .slice aM 0 cM, .string ⟨sR.toArray⟩, .string ⟨#[]⟩, .bool dO, .bool false]] w fun e w' => e = .returned (.bool true) ∧ Below w.heap.size w w' := by
  go_enter Tryz.func131, Tryz.ntmps131
  go_wp2_with fail
  go_loop [64] (fun i => i = .int .i64 0) (fun _ => 0)
  case atStart => rfl
  case round =>
    subst hrel
    go_wp2_with fail
    go_loop [99] (fun i => i = .int .i64 0) (fun _ => 0)
    case atStart => rfl
    case round =>
      subst hrel
      go_wp2_with fail
      go_ret
      exact ⟨rfl, (Below.refl _ _).alloc (Nat.le_refl _) _⟩
theorem right_under (sT sW sD sR : List UInt8) (x : UInt8) (sS : List UInt8) (aA aM : _) (cA cM : Nat) (dO : Bool) (w : World) :
    Calls Tryz.prog 131 #[.agg #[.string ⟨sT.toArray⟩, .string ⟨sW.toArray⟩, .string ⟨sD.toArray⟩, .int .i64 3, .slice aA 0 cA, .slice aM 0 cM, .string ⟨sR.toArray⟩, .string ⟨(x :: sS).toArray⟩, .bool dO, .bool true]] w fun e w' => e = .returned (.bool true) ∧ Below w.heap.size w w' := by
  go_enter Tryz.func131, Tryz.ntmps131
  go_wp2_with fail
  go_loop [64] (fun i => i = .int .i64 0) (fun _ => 0)
  case atStart => rfl
  case round =>
    subst hrel
    go_wp2_with fail
    go_loop [99] (fun i => i = .int .i64 0) (fun _ => 0)
    case atStart => rfl
    case round =>
      subst hrel
      go_wp2_with fail
      go_ret
      exact ⟨rfl, (Below.refl _ _).alloc (Nat.le_refl _) _⟩
theorem right_beneath (sT sW sD sR : List UInt8) (aA aM : _) (cA cM : Nat) (dO : Bool) (w : World) :
    Calls Tryz.prog 131 #[.agg #[.string ⟨sT.toArray⟩, .string ⟨sW.toArray⟩, .string ⟨sD.toArray⟩, .int .i64 3, .slice aA 0 cA, .slice aM 0 cM, .string ⟨sR.toArray⟩, .string ⟨#[]⟩, .bool dO, .bool true]] w fun e w' => e = .returned (.bool true) ∧ Below w.heap.size w w' := by
  go_enter Tryz.func131, Tryz.ntmps131
  go_wp2_with fail
  go_loop [64] (fun i => i = .int .i64 0) (fun _ => 0)
  case atStart => rfl
  case round =>
    subst hrel
    go_wp2_with fail
    go_loop [99] (fun i => i = .int .i64 0) (fun _ => 0)
    case atStart => rfl
    case round =>
      subst hrel
      go_wp2_with fail
      go_ret
      exact ⟨rfl, (Below.refl _ _).alloc (Nat.le_refl _) _⟩
end Go.Proofs.YtegigcneimjimaaGreatDoor
