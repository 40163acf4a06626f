/- PlainRq, RwA. -/
import Derived.Test.YtegigcneimjimaaGreatDoorU16
namespace Go.Proofs.YtegigcneimjimaaGreatDoor
open Go.Lib
open Go.RowKit Go.Lib
set_option maxRecDepth 100000
set_option maxHeartbeats 16000000
def oneF : List UInt8 → List UInt8 → List (List UInt8) → Nat → List (List UInt8) × Int
  | [], _, acc, _ => (acc, -1)
  | c :: t, cur, acc, i => if c = 10 then (if cur = [] then (acc, ((i + 1 : Nat) : Int)) else oneF t [] (acc ++ [cur]) (i + 1)) else oneF t (cur ++ [c]) acc (i + 1)
def oneR (s : List UInt8) : List (List UInt8) × Int := oneF s [] [] 0
theorem oneF_line : ∀ (p t cur : List UInt8) (acc : List (List UInt8)) (i : Nat), (∀ c ∈ p, c ≠ 10) → oneF (p ++ t) cur acc i = oneF t (cur ++ p) acc (i + p.length)
  | [], t, cur, acc, i, _ => by simp
  | c :: p, t, cur, acc, i, h => by
    rw [List.cons_append, oneF, if_neg (h c (by simp)), oneF_line p t (cur ++ [c]) acc (i + 1) (fun d hd => h d (by simp [hd]))]
    simp only [List.append_assoc, List.singleton_append, List.length_cons]
    congr 1
    omega
def nlB (ps : List (List UInt8)) : List UInt8 := ps.flatMap fun p => p ++ [10]
theorem oneF_lines : ∀ (ps : List (List UInt8)) (r : List UInt8) (acc : List (List UInt8)) (i : Nat), (∀ p ∈ ps, p ≠ [] ∧ ∀ c ∈ p, c ≠ 10) → oneF (nlB ps ++ 10 :: r) [] acc i = (acc ++ ps, ((i + (nlB ps).length + 1 : Nat) : Int))
  | [], r, acc, i, _ => by simp [nlB, oneF]
  | p :: ps, r, acc, i, h => by
    have e : nlB (p :: ps) ++ 10 :: r = p ++ (10 :: (nlB ps ++ 10 :: r)) := by simp [nlB]
    have hp := h p (by simp)
    rw [e, oneF_line p _ _ _ _ hp.2, List.nil_append, oneF, if_pos rfl, if_neg hp.1, oneF_lines ps r _ _ (fun q hq => h q (by simp [hq]))]
    simp only [List.append_assoc, List.singleton_append, nlB, List.flatMap_cons, List.length_append, List.length_cons, Prod.mk.injEq, true_and]
    congr 1
    omega
theorem index_cons (c : UInt8) (x : List UInt8) (hc : c ≠ 10) : index (c :: x) sep2 = if index x sep2 < 0 then -1 else index x sep2 + 1 := by
  have h1 : sep2.isPrefixOf (c :: x) = false := by
    have : (10 == c) = false := by simpa using fun e => hc e.symm
    simp [sep2, List.isPrefixOf, this]
  have hg := index_ge x sep2
  conv => lhs; unfold index
  rw [h1]
  by_cases hn : index x sep2 < 0
  · have e : index x sep2 = -1 := by omega
    rw [if_pos hn, e]; rfl
  · rw [if_neg hn]
    have : (index x sep2 == -1) = false := by rw [beq_eq_false_iff_ne]; omega
    simp [this]
theorem index_nl (c : UInt8) (x : List UInt8) (hc : c ≠ 10) : index (10 :: c :: x) sep2 = if index (c :: x) sep2 < 0 then -1 else index (c :: x) sep2 + 1 := by
  have h1 : sep2.isPrefixOf (10 :: c :: x) = false := by
    have : (10 == c) = false := by simpa using fun e => hc e.symm
    simp [sep2, List.isPrefixOf, this]
  have hg := index_ge (c :: x) sep2
  conv => lhs; unfold index
  rw [h1]
  by_cases hn : index (c :: x) sep2 < 0
  · have e : index (c :: x) sep2 = -1 := by omega
    rw [if_pos hn, e]; rfl
  · rw [if_neg hn]
    have : (index (c :: x) sep2 == -1) = false := by rw [beq_eq_false_iff_ne]; omega
    simp [this]
theorem index_nn (x : List UInt8) : index (10 :: 10 :: x) sep2 = 0 := by
  unfold index
  simp [sep2, List.isPrefixOf]
theorem oneF_two : ∀ (s : List UInt8) (acc : List (List UInt8)) (i : Nat),
    (∀ cur, cur ≠ [] → (oneF s cur acc i).2 = if index s sep2 < 0 then -1 else (i : Int) + index s sep2 + 2) ∧ (oneF s [] acc i).2 = if index (10 :: s) sep2 < 0 then -1 else (i : Int) + index (10 :: s) sep2 + 1
  | [], acc, i => by
    refine ⟨fun cur _ => ?_, ?_⟩
    · have : index [] sep2 = -1 := by decide
      simp [oneF, this]
    · have : index [10] sep2 = -1 := by decide
      simp [oneF, this]
  | c :: t, acc, i => by
    by_cases hc : c = 10
    · subst hc
      refine ⟨fun cur hcur => ?_, ?_⟩
      · rw [oneF, if_pos rfl, if_neg hcur, (oneF_two t (acc ++ [cur]) (i + 1)).2]
        split
        · rfl
        · simp only [Int.natCast_add, Int.cast_ofNat_Int]; omega
      · rw [oneF, if_pos rfl, if_pos rfl, index_nn]
        simp
    · obtain ⟨h1, _⟩ := oneF_two t acc (i + 1)
      have hg := index_ge t sep2
      refine ⟨fun cur hcur => ?_, ?_⟩
      · rw [oneF, if_neg hc, h1 _ (by simp), index_cons c t hc]
        by_cases hn : index t sep2 < 0
        · simp [hn]
        · rw [if_neg hn, if_neg hn, if_neg (by omega)]
          simp only [Int.natCast_add, Int.cast_ofNat_Int]; omega
      · rw [oneF, if_neg hc, h1 _ (by simp), index_nl c t hc, index_cons c t hc]
        by_cases hn : index t sep2 < 0
        · simp [hn]
        · rw [if_neg hn, if_neg hn, if_neg (by omega), if_neg (by omega)]
          simp only [Int.natCast_add, Int.cast_ofNat_Int]; omega
theorem oneR_index (c : UInt8) (t : List UInt8) (hc : c ≠ 10) : (oneR (c :: t)).2 = if index (c :: t) sep2 < 0 then -1 else index (c :: t) sep2 + 2 := by
  unfold oneR
  rw [(oneF_two (c :: t) [] 0).2, index_nl c t hc]
  have hg := index_ge (c :: t) sep2
  by_cases hn : index (c :: t) sep2 < 0
  · simp [hn]
  · rw [if_neg hn, if_neg hn, if_neg (by omega)]
    omega
theorem oneR_nl (t : List UInt8) : (oneR (10 :: t)).2 = 1 := by simp [oneR, oneF]
theorem parse_nl (r : List UInt8) : parseC (10 :: r) = none := by
  cases h : parseC (10 :: r) with
  | none => rfl
  | some c =>
    have h1 := parse_prints h
    obtain ⟨_, h2, _⟩ := printC_text h1
    have h3 : (textC c).head? = some 116 := by
      unfold textC headC
      have : lineB [116, 105, 109, 101] c.time = 116 :: (lineB [116, 105, 109, 101] c.time).tail := by
        unfold lineB; split <;> rfl
      rw [this]; rfl
    rw [← h2] at h3
    simp at h3
theorem index_len2 : ∀ (s : List UInt8), 0 ≤ index s sep2 → (index s sep2).toNat + 2 ≤ s.length
  | [], h => by
    unfold index at h
    simp [sep2] at h
  | b :: l, h => by
    unfold index at h ⊢
    split at h
    · rename_i hp
      rw [if_pos hp]
      have := (List.isPrefixOf_iff_prefix.1 hp).length_le
      simp only [sep2, List.length_cons, List.length_nil] at this ⊢
      omega
    · rename_i hp
      rw [if_neg hp]
      split at h
      · omega
      · rename_i hn
        rw [if_neg hn]
        have h0 := index_ge l sep2
        have h1 : index l sep2 ≠ -1 := by simpa using hn
        have := index_len2 l (by omega)
        simp only [List.length_cons]
        omega
theorem one_cases {s : List UInt8} (h : s ≠ []) : ((oneR s).2 < 0 → allF s.length s = none) ∧ ((oneR s).2 = -1 ∨ ∃ n : Nat, (oneR s).2 = (n : Int) ∧ 0 < n ∧ n ≤ s.length ∧
    (parseC (s.take n) = none → allF s.length s = none) ∧ ∀ c, parseC (s.take n) = some c → allF s.length s = (allF (s.drop n).length (s.drop n)).map (c :: ·)) := by
  obtain ⟨k1, k2⟩ := allF_cases h
  cases s with
  | nil => exact absurd rfl h
  | cons c t =>
  have hg := index_ge (c :: t) sep2
  by_cases hc : c = 10
  · subst hc
    have hnone : allF (10 :: t).length (10 :: t) = none := by
      by_cases hn : index (10 :: t) sep2 < 0
      · exact k1 hn
      · exact (k2 (index (10 :: t) sep2).toNat (by omega)).1 (by rw [List.take_succ_cons]; exact parse_nl _)
    rw [oneR_nl]
    refine ⟨fun h => by omega, .inr ⟨1, rfl, by omega, by simp, fun _ => hnone, fun c' hp => ?_⟩⟩
    have : (10 :: t).take 1 = [10] := by simp
    rw [this, parse_nl] at hp
    cases hp
  · rw [oneR_index c t hc]
    by_cases hn : index (c :: t) sep2 < 0
    · rw [if_pos hn]
      exact ⟨fun _ => k1 hn, .inl rfl⟩
    · rw [if_neg hn]
      refine ⟨fun h => by omega, .inr ⟨(index (c :: t) sep2).toNat + 2, by omega, by omega, ?_, k2 _ (by omega)⟩⟩
      have := index_len2 (c :: t) (by omega)
      omega
def splitR (s : List UInt8) : List UInt8 × List UInt8 × Bool :=
  match s.dropWhile (fun c => c != 58) with
  | _ :: 58 :: 32 :: b => (s.takeWhile (fun c => c != 58), (unb b).getD [], (unb b).isSome)
  | _ :: 32 :: v => (s.takeWhile (fun c => c != 58), v, true)
  | _ => ([], [], false)
def kindN (v : List UInt8) : Int := if v = kindW 3 then 3 else if v = kindW 2 then 2 else if v = kindW 1 then 1 else if v = kindW 0 then 0 else -1
def opN (v : List UInt8) : Int := if v = opW 2 then 2 else if v = opW 1 then 1 else if v = opW 0 then 0 else -1
def addF : List Pr → List At → List At
  | [], acc => acc
  | p :: t, acc => addF t (putA p acc)
def snd2 (s : List UInt8) : Pr := ((splitR s).1, (splitR s).2.1)
def putM (v : List UInt8) (ms : List Md) : List Md :=
  match ms.getLast? with
  | some m => ms.dropLast ++ [(m.1, m.2.1, m.2.2 ++ [v])]
  | none => []
def modF : List (List UInt8) → List Md → Bool → List Md
  | [], ms, _ => ms
  | s :: t, ms, o => if s = [45] then modF t ms false else if o then modF t (putM (snd2 s).2 ms) true else modF t (ms ++ [(opN (snd2 s).1, (snd2 s).2, [])]) true
def recF (l : List (List UInt8)) : Chg :=
  if l.length < 4 then ⟨[], [], [], 0, [], [], [], [], false, false⟩ else
  let v := fun i => ((l.map snd2)[i]?.getD ([], [])).2
  let k := kindN (v 3)
  ⟨v 0, v 1, v 2, k, if k = 0 then addF ((l.drop 4).map snd2) [] else [], if k = 2 then modF (l.drop 4) [] false else [],
    if k = 3 then v 4 else [], if k = 3 then v 6 else [], decide (k = 3) && decide (v 5 = [49]), decide (k = 3) && decide (6 < l.length)⟩
def linesA (al : List At) : List (List UInt8) := al.flatMap fun a => a.2.map (lineP a.1)
def linesM1 (m : Md) : List (List UInt8) := lineP (opW m.1) m.2.1 :: (m.2.2.map (lineP m.2.1)) ++ [[45]]
def linesM (ms : List Md) : List (List UInt8) := ms.flatMap linesM1
def linesV (c : Chg) : List (List UInt8) := [lineP wRdn c.newRdn, lineP wOld (if c.delOld then [49] else [48])] ++ if c.hasSup then [lineP wSup c.newSup] else []
def linesR (c : Chg) : List (List UInt8) := if c.kind = 0 then linesA c.attrs else if c.kind = 2 then linesM c.mods else if c.kind = 3 then linesV c else []
def linesC (c : Chg) : List (List UInt8) := lineP wTime c.time :: lineP wWho c.who :: lineP wDn c.dn :: lineP wType (kindW c.kind) :: linesR c
theorem nlB_append (a b : List (List UInt8)) : nlB (a ++ b) = nlB a ++ nlB b := by simp [nlB]
theorem nlB_cons (p : List UInt8) (b : List (List UInt8)) : nlB (p :: b) = p ++ [10] ++ nlB b := by simp [nlB]
theorem nlB_vals (t : List UInt8) : ∀ vs : List (List UInt8), nlB (vs.map (lineP t)) = valsB t vs
  | [] => rfl
  | v :: vs => by
    rw [List.map_cons, nlB_cons, nlB_vals t vs]
    unfold valsB
    rw [List.flatMap_cons, lineB_P]
theorem nlB_attrs : ∀ al : List At, nlB (linesA al) = attrB al
  | [] => rfl
  | a :: al => by
    have ih := nlB_attrs al
    unfold linesA attrB at ih ⊢
    rw [List.flatMap_cons, nlB_append, nlB_vals, ih, List.flatMap_cons]
theorem nlB_mods : ∀ ms : List Md, nlB (linesM ms) = modB ms
  | [] => rfl
  | m :: ms => by
    have ih := nlB_mods ms
    unfold linesM modB at ih ⊢
    rw [List.flatMap_cons, nlB_append, ih, List.flatMap_cons]
    congr 1
    unfold linesM1 modB1
    rw [List.cons_append, nlB_cons, ← lineB_P, nlB_append, nlB_vals]
    simp [nlB]
theorem textC_lines (c : Chg) : textC c = nlB (linesC c) ++ [10] := by
  have hr : restC c = nlB (linesR c) := by
    unfold restC linesR
    split
    · rw [nlB_attrs]
    · split
      · rw [nlB_mods]
      · split
        · unfold moveB linesV
          rw [nlB_append, nlB_cons, nlB_cons, ← lineB_P, ← lineB_P]
          cases c.hasSup <;> simp [nlB, lineB_P, wRdn, wOld, wSup]
        · rfl
  unfold textC headC linesC
  rw [hr, nlB_cons, nlB_cons, nlB_cons, nlB_cons, ← lineB_P, ← lineB_P, ← lineB_P, ← lineB_P]
  simp only [List.append_assoc]
  rfl
theorem lineP_ok {n : List UInt8} (h : noSep n) (v : List UInt8) : lineP n v ≠ [] ∧ ∀ d ∈ lineP n v, d ≠ 10 := by
  refine ⟨?_, lineP_no n v h⟩
  unfold lineP
  split <;> simp
theorem sepTime : noSep wTime := ⟨by decide, by decide⟩
theorem sepWho : noSep wWho := ⟨by decide, by decide⟩
theorem sepDn : noSep wDn := ⟨by decide, by decide⟩
theorem sepType : noSep wType := ⟨by decide, by decide⟩
theorem sepRdn : noSep wRdn := ⟨by decide, by decide⟩
theorem sepOld : noSep wOld := ⟨by decide, by decide⟩
theorem sepSup : noSep wSup := ⟨by decide, by decide⟩
theorem linesC_ok {c : Chg} (h : rightC c = true) : ∀ p ∈ linesC c, p ≠ [] ∧ ∀ d ∈ p, d ≠ 10 := by
  simp only [rightC, Bool.and_eq_true] at h
  obtain ⟨⟨_, ha⟩, hm⟩ := h
  intro p hp
  simp only [linesC, List.mem_cons] at hp
  rcases hp with rfl | rfl | rfl | rfl | hp
  · exact lineP_ok sepTime _
  · exact lineP_ok sepWho _
  · exact lineP_ok sepDn _
  · exact lineP_ok sepType _
  · unfold linesR at hp
    split at hp
    · obtain ⟨a, h1, h2⟩ := List.mem_flatMap.1 hp
      obtain ⟨v, _, rfl⟩ := List.mem_map.1 h2
      exact lineP_ok (type_sep (attrs_types _ _ ha a h1)).1 _
    · split at hp
      · obtain ⟨m, h1, h2⟩ := List.mem_flatMap.1 hp
        simp only [linesM1, List.cons_append, List.mem_cons, List.mem_append, List.mem_map, List.not_mem_nil, or_false] at h2
        rcases h2 with rfl | ⟨v, _, rfl⟩ | rfl
        · exact lineP_ok (opW_sep _) _
        · exact lineP_ok (type_sep (mods_types _ hm m h1).2).1 _
        · exact ⟨by simp, by simp⟩
      · split at hp
        · unfold linesV at hp
          simp only [List.mem_append, List.mem_cons, List.not_mem_nil, or_false] at hp
          rcases hp with (rfl | rfl) | hp
          · exact lineP_ok sepRdn _
          · exact lineP_ok sepOld _
          · cases hs : c.hasSup
            · rw [hs] at hp; simp at hp
            · rw [hs] at hp
              simp only [if_true, List.mem_cons, List.not_mem_nil, or_false] at hp
              subst hp
              exact lineP_ok sepSup _
        · cases hp
theorem while_sep : ∀ (n r : List UInt8), (∀ c ∈ n, c ≠ 58) → (n ++ 58 :: r).takeWhile (fun c => c != 58) = n ∧ (n ++ 58 :: r).dropWhile (fun c => c != 58) = 58 :: r
  | [], r, _ => by simp
  | c :: n, r, h => by
    have hc : (c != 58) = true := by simpa using h c (by simp)
    obtain ⟨h1, h2⟩ := while_sep n r (fun d hd => h d (by simp [hd]))
    simp only [List.cons_append, List.takeWhile_cons, List.dropWhile_cons, hc, if_true, h1, h2]
    exact ⟨trivial, trivial⟩
theorem split_line {n : List UInt8} (h : noSep n) (v : List UInt8) : splitR (lineP n v) = (n, v, true) := by
  have hn : ∀ c ∈ n, c ≠ 58 := fun c hc => (h.2 c hc).2
  unfold lineP
  split
  · have e : n ++ [58, 32] ++ v = n ++ 58 :: (32 :: v) := by simp
    obtain ⟨h1, h2⟩ := while_sep n (32 :: v) hn
    rw [e]
    unfold splitR
    rw [h2, h1]
    first | rfl | simp
  · have e : n ++ [58, 58, 32] ++ b64 v = n ++ 58 :: (58 :: 32 :: b64 v) := by simp
    obtain ⟨h1, h2⟩ := while_sep n (58 :: 32 :: b64 v) hn
    rw [e]
    unfold splitR
    rw [h2, h1]
    simp [unb_b64]
theorem snd2_line {n : List UInt8} (h : noSep n) (v : List UInt8) : snd2 (lineP n v) = (n, v) := by unfold snd2; rw [split_line h]
theorem lineP_dash {n : List UInt8} (h : noSep n) (v : List UInt8) : lineP n v ≠ [45] := by
  intro e
  have h1 := snd2_line h v
  rw [e] at h1
  have h2 : snd2 [45] = ([], []) := by decide +kernel
  rw [h2] at h1
  exact h.1 (Prod.mk.inj h1).1.symm
theorem addF_addR : ∀ (ps : List Pr) (acc : List At), (∀ p ∈ ps, p.1 ≠ []) → addR (ps ++ endPs) acc = addF ps acc
  | [], acc, _ => by simp [endPs, addR, addF]
  | p :: ps, acc, h => by
    rw [List.cons_append, addR, if_neg (h p (by simp)), addF]
    exact addF_addR ps _ (fun q hq => h q (by simp [hq]))
theorem linesA_ps : ∀ al : List At, (∀ a ∈ al, noSep a.1) → (linesA al).map snd2 = attrPs al
  | [], _ => rfl
  | a :: al, h => by
    have ih := linesA_ps al (fun b hb => h b (by simp [hb]))
    unfold linesA attrPs at ih ⊢
    rw [List.flatMap_cons, List.map_append, ih, List.flatMap_cons, List.map_map]
    congr 1
    refine List.map_congr_left (fun v _ => ?_)
    exact snd2_line (h a (by simp)) v
theorem putM_last (v : List UInt8) (ms : List Md) (k : Int) (t : List UInt8) (us : List (List UInt8)) : putM v (ms ++ [(k, t, us)]) = ms ++ [(k, t, us ++ [v])] := by
  simp [putM]
theorem modF_vals (k : Int) (t : List UInt8) (ht : noSep t) (r : List (List UInt8)) (ms : List Md) : ∀ (vs us : List (List UInt8)), modF (vs.map (lineP t) ++ r) (ms ++ [(k, t, us)]) true = modF r (ms ++ [(k, t, us ++ vs)]) true
  | [], us => by simp
  | v :: vs, us => by
    rw [List.map_cons, List.cons_append, modF, if_neg (lineP_dash ht v), if_pos rfl, snd2_line ht v, putM_last, modF_vals k t ht r ms vs (us ++ [v])]
    simp
theorem opN_W (k : Int) (h0 : 0 ≤ k) (h2 : k ≤ 2) : opN (opW k) = k := by
  have : k = 0 ∨ k = 1 ∨ k = 2 := by omega
  rcases this with rfl | rfl | rfl <;> decide
theorem modF_all : ∀ (ms acc : List Md), (∀ m ∈ ms, (0 ≤ m.1 ∧ m.1 ≤ 2) ∧ noSep m.2.1) → modF (linesM ms) acc false = acc ++ ms
  | [], acc, _ => by simp [linesM, modF]
  | m :: ms, acc, h => by
    obtain ⟨h1, h2⟩ := h m (by simp)
    have e : linesM (m :: ms) = lineP (opW m.1) m.2.1 :: (m.2.2.map (lineP m.2.1) ++ ([45] :: linesM ms)) := by simp [linesM, linesM1]
    rw [e, modF, if_neg (lineP_dash (opW_sep _) _), if_neg (by decide), snd2_line (opW_sep _), opN_W _ h1.1 h1.2, modF_vals m.1 m.2.1 h2, List.nil_append, modF, if_pos rfl, modF_all ms _ (fun q hq => h q (by simp [hq]))]
    simp
theorem kindN_W (k : Int) (h0 : 0 ≤ k) (h3 : k ≤ 3) : kindN (kindW k) = k := by
  have : k = 0 ∨ k = 1 ∨ k = 2 ∨ k = 3 := by omega
  rcases this with rfl | rfl | rfl | rfl <;> decide
theorem rec_back (c : Chg) (h : rightC c = true) : recF (linesC c) = c := by
  simp only [rightC, Bool.and_eq_true] at h
  obtain ⟨⟨ho, ha⟩, hm⟩ := h
  obtain ⟨time, who, dn, kind, attrs, mods, newRdn, newSup, delOld, hasSup⟩ := c
  simp only [onlyC, Bool.and_eq_true, Bool.or_eq_true, Bool.not_eq_true', decide_eq_true_eq, List.isEmpty_iff] at ho
  obtain ⟨⟨⟨⟨⟨h0, h3⟩, hA⟩, hM⟩, hS⟩, hR⟩ := ho
  simp only at h0 h3 hA hM hS hR ha hm
  have hk : kind = 0 ∨ kind = 1 ∨ kind = 2 ∨ kind = 3 := by omega
  have hkn := kindN_W kind h0 h3
  obtain ⟨L, hL⟩ : ∃ L, linesR ⟨time, who, dn, kind, attrs, mods, newRdn, newSup, delOld, hasSup⟩ = L := ⟨_, rfl⟩
  have e : recF (linesC ⟨time, who, dn, kind, attrs, mods, newRdn, newSup, delOld, hasSup⟩) =
      ⟨time, who, dn, kind, if kind = 0 then addF (L.map snd2) [] else [], if kind = 2 then modF L [] false else [],
        if kind = 3 then ((L.map snd2)[0]?.getD ([], [])).2 else [], if kind = 3 then ((L.map snd2)[2]?.getD ([], [])).2 else [], decide (kind = 3) && decide (((L.map snd2)[1]?.getD ([], [])).2 = [49]), decide (kind = 3) && decide (2 < L.length)⟩ := by
    unfold recF linesC
    rw [hL, if_neg (by simp)]
    simp only [List.map_cons, snd2_line sepTime, snd2_line sepWho, snd2_line sepDn, snd2_line sepType, List.getElem?_cons_zero, List.getElem?_cons_succ, Option.getD_some, hkn, List.drop_succ_cons, List.drop_zero, List.length_cons]
    have : decide (6 < L.length + 1 + 1 + 1 + 1) = decide (2 < L.length) := decide_eq_decide.2 (by omega)
    rw [this]
  rw [e]
  clear e
  rcases hk with rfl | rfl | rfl | rfl
  · have hm0 : mods = [] := by simpa using hM
    have hr : (newRdn = [] ∧ delOld = false) ∧ hasSup = false := by simpa using hR
    obtain ⟨⟨rfl, rfl⟩, rfl⟩ := hr
    have hs : newSup = [] := by simpa using hS
    subst hm0 hs
    have hadd := addR_attrs attrs [] none ha rfl
    rw [addF_addR _ _ (fun p hp => by
      obtain ⟨a, h1, h2⟩ := List.mem_flatMap.1 hp
      obtain ⟨v, _, rfl⟩ := List.mem_map.1 h2
      exact (type_sep (attrs_types _ _ ha a h1)).1.1)] at hadd
    have hl : L.map snd2 = attrPs attrs := by
      rw [← hL, linesR, if_pos rfl, linesA_ps _ (fun a hx => (type_sep (attrs_types _ _ ha a hx)).1)]
    rw [hl, hadd]
    simp
  · have hm0 : mods = [] := by simpa using hM
    have ha0 : attrs = [] := by simpa using hA
    have hr : (newRdn = [] ∧ delOld = false) ∧ hasSup = false := by simpa using hR
    obtain ⟨⟨rfl, rfl⟩, rfl⟩ := hr
    have hs : newSup = [] := by simpa using hS
    subst hm0 hs ha0
    simp
  · have ha0 : attrs = [] := by simpa using hA
    have hr : (newRdn = [] ∧ delOld = false) ∧ hasSup = false := by simpa using hR
    obtain ⟨⟨rfl, rfl⟩, rfl⟩ := hr
    have hs : newSup = [] := by simpa using hS
    subst hs ha0
    have hmods := modF_all mods [] (fun m hx => ⟨(mods_types _ hm m hx).1, (type_sep (mods_types _ hm m hx).2).1⟩)
    have hl : L = linesM mods := by rw [← hL]; simp [linesR]
    rw [hl, hmods]
    simp
  · have hm0 : mods = [] := by simpa using hM
    have ha0 : attrs = [] := by simpa using hA
    subst hm0 ha0
    have hl : L = linesV ⟨time, who, dn, 3, [], [], newRdn, newSup, delOld, hasSup⟩ := by rw [← hL]; simp [linesR]
    subst hl
    cases hasSup
    · have hs : newSup = [] := by simpa using hS
      subst hs
      cases delOld <;> simp [linesV, snd2_line sepRdn, snd2_line sepOld]
    · cases delOld <;> simp [linesV, snd2_line sepRdn, snd2_line sepOld, snd2_line sepSup]
theorem ref_parse (s : List UInt8) (_ : s.length ≤ 65536) (c : Chg) : parseC s = some c ↔ (oneR s).2 = (s.length : Int) ∧ printC (recF (oneR s).1) = (s, 0) ∧ recF (oneR s).1 = c := by
  constructor
  · intro h
    have hp := parse_prints h
    obtain ⟨hr, ht, _⟩ := printC_text hp
    have h1 : oneR s = (linesC c, (s.length : Int)) := by
      rw [ht, textC_lines]
      unfold oneR
      rw [oneF_lines _ [] [] 0 (linesC_ok hr)]
      simp
    rw [h1]
    simp only
    rw [rec_back c hr]
    exact ⟨trivial, hp, rfl⟩
  · rintro ⟨_, h2, rfl⟩
    exact parse_back h2
theorem while_all : ∀ s : List UInt8, (∀ c ∈ s, c ≠ 58) → s.takeWhile (fun c => c != 58) = s ∧ s.dropWhile (fun c => c != 58) = []
  | [], _ => ⟨rfl, rfl⟩
  | c :: s, h => by
    have hc : (c != 58) = true := by simpa using h c (by simp)
    obtain ⟨h1, h2⟩ := while_all s (fun d hd => h d (by simp [hd]))
    simp only [List.takeWhile_cons, List.dropWhile_cons, hc, if_true, h1, h2]
    exact ⟨trivial, trivial⟩
theorem u8i {x c : UInt8} (h : x ≠ c) : ((x.toNat : Int) == (c.toNat : Int)) = false := by
  rw [beq_eq_false_iff_ne]
  intro e
  exact h (UInt8.toNat_inj.1 (by omega))
theorem u8n {x c : UInt8} (h : x ≠ c) : ((x.toNat : Int) != (c.toNat : Int)) = true := by rw [bne, u8i h]; rfl
def OneL (s : List UInt8) (w : World) (RES : List (List UInt8) × Int) (v f q : Value) (wr : World) : Prop :=
  ∃ (fr k : Nat) (acc : List (List UInt8)), fr ≤ k ∧ k ≤ s.length ∧ f = .int .i64 (fr : Int) ∧ q = .int .i64 (k : Int) ∧ oneF (s.drop k) ((s.drop fr).take (k - fr)) acc k = RES ∧ TO w.heap.size wr v acc ∧ acc.length ≤ k ∧ Below w.heap.size w wr
theorem one_any (s : List UInt8) (w : World) (hl : s.length ≤ 1000000000) :
    Calls Tryz.prog 33 #[.string ⟨s.toArray⟩] w fun e w' => (∃ v, e = .returned (.tuple #[v, .int .i64 (oneR s).2]) ∧ TO w.heap.size w' v (oneR s).1) ∧ Below w.heap.size w w' := by
  obtain ⟨RES, hres⟩ : ∃ r, oneR s = r := ⟨_, rfl⟩
  rw [hres]
  have HR := Lib.hid hres
  clear hres
  obtain ⟨PR, hPR⟩ : ∃ P : Ending → World → Prop, (fun e w' => (∃ v, e = .returned (.tuple #[v, .int .i64 RES.2]) ∧ TO w.heap.size w' v RES.1) ∧ Below w.heap.size w w') = P := ⟨_, rfl⟩
  rw [hPR]
  have HPR := Lib.hid hPR
  clear hPR
  obtain ⟨i0, hi0, hz0, hz1, hz2⟩ := info_parts Tryz.infoString
  go_enter Tryz.func33, Tryz.ntmps33
  go_wp2_with fail
  go_loopw [4, 5, 6] (fun v f q wr => OneL s w RES v f q wr) (fun _ _ q _ => s.length - (RowKit.intOf q).toNat)
  case atStart => exact ⟨0, 0, [], by omega, by omega, rfl, rfl, HR.out, World.ownsRow_nil _ _ _ _, by simp, Below.refl _ _⟩
  case round =>
    obtain ⟨fr, k, acc, hfr, hk, rfl, rfl, hans, hown, hal, hbe⟩ := hrel
    have HA := Lib.hid hans
    clear hans
    have hsz := hbe.size
    by_cases hlt : k < s.length
    · have g1 : decide ((k : Int) < (s.length : Int)) = true := decide_eq_true (by omega)
      have g2 : (k : Int) < (s.length : Int) := by omega
      obtain ⟨x, hx⟩ : ∃ x, s[k] = x := ⟨_, rfl⟩
      have hbx : ∀ h', (⟨s.toArray⟩ : ByteArray)[k]'h' = x := fun h' => hx
      have hans := HA.out
      rw [List.drop_eq_getElem_cons hlt, hx, oneF] at hans
      have hcm := cut_more s fr k hfr hlt
      rw [hx] at hcm
      have hcl := cut_len s fr k hfr (by omega)
      by_cases h10 : x = 10
      · have b1 : ((x.toNat : Int) != 10) = false := by rw [h10]; rfl
        have b2 : ((x.toNat : Int) == 10) = true := by rw [h10]; rfl
        rw [if_pos h10] at hans
        by_cases hkf : fr = k
        · subst hkf
          rw [Nat.sub_self, List.take_zero, if_pos rfl] at hans
          subst hans
          have c1 : ((fr : Int) == (fr : Int)) = true := by simp
          clear hx hcm hcl h10 HA HR
          go_wp2_with fail
          show PR (.returned (.tuple #[u4, .int .i64 ((fr : Int) + 1)])) wr
          rw [← HPR.out]
          exact ⟨⟨_, rfl, hown⟩, hbe⟩
        · have c1 : ((k : Int) == (fr : Int)) = false := by rw [beq_eq_false_iff_ne]; omega
          have c2 : (fr : Int) ≤ (k : Int) := by omega
          have c3 : (k : Int) ≤ (s.length : Int) := by omega
          rw [if_neg (by intro e; rw [e] at hcl; simp at hcl; omega)] at hans
          obtain ⟨cur, hcur⟩ : ∃ cur, (s.drop fr).take (k - fr) = cur := ⟨_, rfl⟩
          have hex : (⟨s.toArray⟩ : ByteArray).extract fr k = ⟨cur.toArray⟩ := by rw [Lib.extract_mk, hcur]
          rw [hcur] at hans
          have HS := Lib.hid hans
          clear hx hcm hcl h10 HA HR hans hcur
          go_wp2_with (at_builtin; refine wpList_append_own_at _ rfl (.tmp 23) (.tmp 28) 58 rfl w.heap.size 9 i0 (.string ⟨#[]⟩) 1 16 Tryz.underlying58 hi0 hz0 hz1 hz2 rfl (by decide) u4 acc.length (sV acc) rfl (hown.alloc _) ⟨wr.heap.size, 0, none⟩ 1 1 [.string ⟨cur.toArray⟩] rfl rfl ?d1 ?d2 ?d3 ?d4 ?d5 ?_)
          case d1 => exact cells_new wr [.string ⟨cur.toArray⟩] 9
          case d2 => intro u hu; simp at hu; subst hu; rfl
          case d3 => unfold maxLen; omega
          case d4 => omega
          case d5 => simp; omega
          intro v' w7 ho7 hg7 _ hat7
          have ho8 : TO w.heap.size w7 v' (acc ++ [cur]) := by
            unfold TO
            rw [sV_append, List.length_append]
            exact ho7
          go_wp2_with fail
          go_roundw
          case rel => exact ⟨k + 1, k + 1, acc ++ [cur], by omega, by omega, by go_num, by go_num, by rw [Nat.sub_self, List.take_zero]; exact HS.out, ho8, by simp; omega, (hbe.alloc (by omega) _).grown hg7 (by simp; omega) (fun b hb => (World.ownsRow.lt hown b hb).1)⟩
          case measure => simp [RowKit.intOf]; omega
      · have b1 : ((x.toNat : Int) != 10) = true := u8n (c := 10) h10
        have b2 : ((x.toNat : Int) == 10) = false := u8i (c := 10) h10
        rw [if_neg h10, ← hcm] at hans
        have HS := Lib.hid hans
        clear hx hcm hcl h10 HA HR hans
        go_wp2_with fail
        go_roundw
        case rel => exact ⟨fr, k + 1, acc, by omega, by omega, rfl, by go_num, HS.out, hown, by omega, hbe⟩
        case measure => simp [RowKit.intOf]; omega
    · obtain rfl : k = s.length := by omega
      have g1 : decide (((s.length : Nat) : Int) < (s.length : Int)) = false := decide_eq_false (by omega)
      have hans := HA.out
      rw [List.drop_of_length_le (Nat.le_refl _), oneF] at hans
      subst hans
      clear HA HR
      go_wp2_with fail
      show PR (.returned (.tuple #[u4, .int .i64 (-1)])) wr
      rw [← HPR.out]
      exact ⟨⟨_, rfl, hown⟩, hbe⟩
theorem while_at (s : List UInt8) (k : Nat) (h : ∀ c ∈ s.take k, c ≠ 58) (hd : s.drop k = [] ∨ ∃ r, s.drop k = 58 :: r) : s.takeWhile (fun c => c != 58) = s.take k ∧ s.dropWhile (fun c => c != 58) = s.drop k := by
  have e : s = s.take k ++ s.drop k := (List.take_append_drop k s).symm
  rcases hd with hd | ⟨r, hd⟩
  · have e2 : s = s.take k := by rw [hd, List.append_nil] at e; exact e
    rw [hd, ← e2]
    exact while_all s (fun c hc => by rw [e2] at hc; exact h c hc)
  · obtain ⟨h1, h2⟩ := while_sep (s.take k) r h
    rw [hd] at e
    rw [hd]
    generalize s.take k = n at *
    rw [e]
    exact ⟨h1, h2⟩
theorem split_any (s : List UInt8) (w : World) (hl : s.length ≤ 1000000000) :
    Calls Tryz.prog 147 #[.string ⟨s.toArray⟩] w fun e w' => e = .returned (.agg #[.string ⟨(splitR s).1.toArray⟩, .string ⟨(splitR s).2.1.toArray⟩, .bool (splitR s).2.2]) ∧ Below w.heap.size w w' := by
  obtain ⟨RES, hres⟩ : ∃ r, splitR s = r := ⟨_, rfl⟩
  rw [hres]
  have HR := Lib.hid hres
  clear hres
  have hb0 : Below w.heap.size w (w.alloc (.cells #[.string ⟨#[]⟩, .string ⟨#[]⟩, .bool false] 187)) := (Below.refl _ _).alloc (Nat.le_refl _) _
  have hk0 : (w.alloc (.cells #[.string ⟨#[]⟩, .string ⟨#[]⟩, .bool false] 187)).heap[w.heap.size]? = some (.cells #[.string ⟨#[]⟩, .string ⟨#[]⟩, .bool false] 187 (0, 0)) := alloc_at _ _ _ rfl
  go_enter Tryz.func147, Tryz.ntmps147
  go_wp2_with fail
  generalize w.alloc (.cells #[.string ⟨#[]⟩, .string ⟨#[]⟩, .bool false] 187) = w1 at hb0 hk0 ⊢
  go_loopw [3] (fun i wr => wr = w1 ∧ ∃ k : Nat, i = .int .i64 (k : Int) ∧ k ≤ s.length ∧ ∀ c ∈ s.take k, c ≠ 58) (fun i _ => s.length - (RowKit.intOf i).toNat)
  case atStart => exact ⟨rfl, 0, rfl, by omega, by simp⟩
  case round =>
    obtain ⟨rfl, k, rfl, hk, hno⟩ := hrel
    have n0 : wr.cell? ⟨w.heap.size, 0, none⟩ = some (.string ⟨#[]⟩) := by rw [Lib.cell_of_heap hk0]; rfl
    have n1 : wr.cell? ⟨w.heap.size, 1, none⟩ = some (.string ⟨#[]⟩) := by rw [Lib.cell_of_heap hk0]; rfl
    have n2 : wr.cell? ⟨w.heap.size, 2, none⟩ = some (.bool false) := by rw [Lib.cell_of_heap hk0]; rfl
    have f0 : wr.frozen? ⟨w.heap.size, 0, none⟩ = false := Lib.frozen_of_heap hk0 0
    have f1 : wr.frozen? ⟨w.heap.size, 1, none⟩ = false := Lib.frozen_of_heap hk0 1
    have f2 : wr.frozen? ⟨w.heap.size, 2, none⟩ = false := Lib.frozen_of_heap hk0 2
    have z1 : ((k : Int) + 1).toNat = k + 1 := by omega
    have z2 : ((k : Int) + 2).toNat = k + 2 := by omega
    have z3 : ((k : Int) + 3).toNat = k + 3 := by omega
    have HN := Lib.hid hno
    cases hdr : s.drop k with
    | nil =>
      have hkl : k = s.length := by
        have := congrArg List.length hdr
        simp at this
        omega
      have g1 : decide ((k : Int) < (s.length : Int)) = false := decide_eq_false (by omega)
      have g2 : decide ((k : Int) + 2 < (s.length : Int)) = false := decide_eq_false (by omega)
      have g3 : decide ((k : Int) + 1 < (s.length : Int)) = false := decide_eq_false (by omega)
      obtain ⟨_, h2⟩ := while_at s k hno (.inl hdr)
      rw [hdr] at h2
      have hr := HR.out
      unfold splitR at hr
      rw [h2] at hr
      simp only at hr
      subst hr
      clear h2 HR HN hno hdr
      have hnl : ¬ k < s.length := by omega
      go_wp2_with fail
      refine bodyPost_ret (v := .agg #[.string ⟨#[]⟩, .string ⟨#[]⟩, .bool false]) (by simp [results, Tryz.results147, go_sem, n0, n1, n2]) rfl ?_
      exact ⟨rfl, ((hb0.setCell (Nat.le_refl _) _).setCell (Nat.le_refl _) _).setCell (Nat.le_refl _) _⟩
    | cons x r =>
      have hkl : k < s.length := by
        have := congrArg List.length hdr
        simp at this
        omega
      have hlen : s.length = k + 1 + r.length := by
        have := congrArg List.length hdr
        simp at this
        omega
      have g1 : decide ((k : Int) < (s.length : Int)) = true := decide_eq_true (by omega)
      have i1 : (k : Int) < (s.length : Int) := by omega
      have hg0 : ∀ h, (⟨s.toArray⟩ : ByteArray)[k]'h = x := fun h => byte_of_drop (j := 0) (by rw [hdr]; rfl) h
      by_cases hx : x = 58
      · have b1 : ((x.toNat : Int) != 58) = false := by rw [hx]; rfl
        have b2 : ((x.toNat : Int) == 58) = true := by rw [hx]; rfl
        have hdr58 : s.drop k = 58 :: r := by rw [hdr, hx]
        obtain ⟨h1, h2⟩ := while_at s k hno (.inr ⟨r, hdr58⟩)
        rw [hdr58] at h2
        clear hdr58 hx
        have hr := HR.out
        unfold splitR at hr
        rw [h2, h1] at hr
        clear h1 h2 HR HN hno
        cases r with
        | nil =>
          simp only [List.length_nil] at hlen
          have g2 : decide ((k : Int) + 2 < (s.length : Int)) = false := decide_eq_false (by omega)
          have g3 : decide ((k : Int) + 1 < (s.length : Int)) = false := decide_eq_false (by omega)
          simp only at hr
          subst hr
          clear hdr hlen
          go_wp2_with fail
          refine bodyPost_ret (v := .agg #[.string ⟨#[]⟩, .string ⟨#[]⟩, .bool false]) (by simp [results, Tryz.results147, go_sem, n0, n1, n2]) rfl ?_
          exact ⟨rfl, ((hb0.setCell (Nat.le_refl _) _).setCell (Nat.le_refl _) _).setCell (Nat.le_refl _) _⟩
        | cons y t =>
          simp only [List.length_cons] at hlen
          have g3 : decide ((k : Int) + 1 < (s.length : Int)) = true := decide_eq_true (by omega)
          have i3 : (k : Int) + 1 < (s.length : Int) := by omega
          have hg1 : ∀ h, (⟨s.toArray⟩ : ByteArray)[k + 1]'h = y := fun h => byte_of_drop (j := 1) (by rw [hdr]; rfl) h
          have hex0 : (⟨s.toArray⟩ : ByteArray).extract 0 k = ⟨(s.take k).toArray⟩ := by rw [Lib.extract_mk]; simp
          have hdr2 : s.drop (k + 2) = t := by
            have := congrArg (List.drop 2) hdr
            rw [List.drop_drop] at this
            simpa using this
          have hex2 : (⟨s.toArray⟩ : ByteArray).extract (k + 2) s.length = ⟨t.toArray⟩ := by
            rw [Lib.extract_mk, List.take_of_length_le (by rw [List.length_drop]; omega), hdr2]
          by_cases hy32 : y = 32
          · have c1 : ((y.toNat : Int) == 58) = false := by rw [hy32]; rfl
            have c2 : ((y.toNat : Int) == 32) = true := by rw [hy32]; rfl
            have hr2 : (s.take k, t, true) = RES := by
              rw [← hr, hy32]
              cases t with
              | nil => rfl
              | cons z u => rfl
            subst hr2
            have g2 : decide ((k : Int) + 2 < (s.length : Int)) = decide (0 < t.length) := decide_eq_decide.2 (by omega)
            have i4 : (k : Int) + 2 ≤ (s.length : Int) := by omega
            have i6 : (k : Int) ≤ (s.length : Int) := by omega
            have i7 : (0 : Int) ≤ (k : Int) + 2 := by omega
            have gi : IntKind.i64.wrap ((k : Int) + 2) = (k : Int) + 2 := by rw [IntKind.wrap_i64]; omega
            clear hy32
            cases ht : decide (0 < t.length)
            · rw [ht] at g2
              clear hr hdr hlen hdr2 ht
              go_wp2
              refine region_anyT (S := fun _ => True) (st := 8) (by kernel_rfl) ?_
              have hb1 := hb0.drew
              have p0 : wr.drew.cell? ⟨w.heap.size, 0, none⟩ = some (.string ⟨#[]⟩) := n0
              have p1 : wr.drew.cell? ⟨w.heap.size, 1, none⟩ = some (.string ⟨#[]⟩) := n1
              have p2 : wr.drew.cell? ⟨w.heap.size, 2, none⟩ = some (.bool false) := n2
              have e0 : wr.drew.frozen? ⟨w.heap.size, 0, none⟩ = false := f0
              have e1 : wr.drew.frozen? ⟨w.heap.size, 1, none⟩ = false := f1
              have e2 : wr.drew.frozen? ⟨w.heap.size, 2, none⟩ = false := f2
              generalize wr.drew = wd at p0 p1 p2 e0 e1 e2 hb1 ⊢
              refine anyT_free 0 (.string ⟨s.toArray⟩) rfl (by decide) (by kernel_rfl) (by kernel_rfl) (by kernel_rfl) (fun _ _ _ h => h) (by rfl) (fun w' => by go_simp) (.inr trivial) (fun K hK => ?_); go_simp; refine hK _ _ ?_; clear hK K
              refine anyT_free 1 (.int .i64 (k : Int)) rfl (by decide) (by kernel_rfl) (by kernel_rfl) (by kernel_rfl) (fun _ _ _ h => h) (by rfl) (fun w' => by go_simp) (.inr trivial) (fun K hK => ?_); go_simp; refine hK _ _ ?_; clear hK K
              refine anyT_free 2 (.string ⟨(s.take k).toArray⟩) rfl (by decide) (by kernel_rfl) (by kernel_rfl) (by kernel_rfl) (fun _ _ _ h => h) (by rfl) (fun w' => by go_simp) (.inr trivial) (fun K hK => ?_); go_simp; refine hK _ _ ?_; clear hK K
              refine anyT_free 3 (.string ⟨s.toArray⟩) rfl (by decide) (by kernel_rfl) (by kernel_rfl) (by kernel_rfl) (fun _ _ _ h => h) (by rfl) (fun w' => by go_simp) (.inr trivial) (fun K hK => ?_); go_simp; refine hK _ _ ?_; clear hK K
              refine anyT_free 4 (.int .i64 (k : Int)) rfl (by decide) (by kernel_rfl) (by kernel_rfl) (by kernel_rfl) (fun _ _ _ h => h) (by rfl) (fun w' => by go_simp) (.inr trivial) (fun K hK => ?_); go_simp; refine hK _ _ ?_; clear hK K
              refine anyT_free 5 (.int .i64 ((k : Int) + 2)) rfl (by decide) (by kernel_rfl) (by kernel_rfl) (by kernel_rfl) (fun _ _ _ h => h) (by rfl) (fun w' => by go_simp) (.inr trivial) (fun K hK => ?_); go_simp; refine hK _ _ ?_; clear hK K
              refine anyT_free 6 (.string ⟨t.toArray⟩) rfl (by decide) (by kernel_rfl) (by kernel_rfl) (by kernel_rfl) (fun _ _ _ h => h) (by rfl) (fun w' => by go_simp) (.inr trivial) (fun K hK => ?_); go_simp; refine hK _ _ ?_; clear hK K
              refine anyT_free 7 (.agg #[.string ⟨(s.take k).toArray⟩, .string ⟨t.toArray⟩, .bool true]) rfl (by decide) (by kernel_rfl) (by kernel_rfl) (by kernel_rfl) (fun _ _ _ h => h) (by rfl) (fun w' => by go_simp) (.inr trivial) (fun K hK => ?_); go_simp; refine hK _ _ ?_; clear hK K
              refine anyT_one 8 (by kernel_rfl) rfl (by rfl) (fun K hK => ?_); go_simp; refine hK _ _ (.inl (by rfl)) ?_; clear hK K
              refine anyT_done (by kernel_rfl) ?_ _
              go_wp2_with fail
              refine bodyPost_ret (v := .agg #[.string ⟨(s.take k).toArray⟩, .string ⟨t.toArray⟩, .bool true]) (by simp [results, Tryz.results147, go_sem, p0, p1, p2]) rfl ?_
              exact ⟨rfl, ((hb1.setCell (Nat.le_refl _) _).setCell (Nat.le_refl _) _).setCell (Nat.le_refl _) _⟩
            · rw [ht] at g2
              clear hr hdr hlen hdr2 ht
              go_wp2
              refine region_anyT (S := fun _ => True) (st := 8) (by kernel_rfl) ?_
              have hb1 := hb0.drew
              have p0 : wr.drew.cell? ⟨w.heap.size, 0, none⟩ = some (.string ⟨#[]⟩) := n0
              have p1 : wr.drew.cell? ⟨w.heap.size, 1, none⟩ = some (.string ⟨#[]⟩) := n1
              have p2 : wr.drew.cell? ⟨w.heap.size, 2, none⟩ = some (.bool false) := n2
              have e0 : wr.drew.frozen? ⟨w.heap.size, 0, none⟩ = false := f0
              have e1 : wr.drew.frozen? ⟨w.heap.size, 1, none⟩ = false := f1
              have e2 : wr.drew.frozen? ⟨w.heap.size, 2, none⟩ = false := f2
              generalize wr.drew = wd at p0 p1 p2 e0 e1 e2 hb1 ⊢
              refine anyT_free 0 (.string ⟨s.toArray⟩) rfl (by decide) (by kernel_rfl) (by kernel_rfl) (by kernel_rfl) (fun _ _ _ h => h) (by rfl) (fun w' => by go_simp) (.inr trivial) (fun K hK => ?_); go_simp; refine hK _ _ ?_; clear hK K
              refine anyT_free 1 (.int .i64 (k : Int)) rfl (by decide) (by kernel_rfl) (by kernel_rfl) (by kernel_rfl) (fun _ _ _ h => h) (by rfl) (fun w' => by go_simp) (.inr trivial) (fun K hK => ?_); go_simp; refine hK _ _ ?_; clear hK K
              refine anyT_free 2 (.string ⟨(s.take k).toArray⟩) rfl (by decide) (by kernel_rfl) (by kernel_rfl) (by kernel_rfl) (fun _ _ _ h => h) (by rfl) (fun w' => by go_simp) (.inr trivial) (fun K hK => ?_); go_simp; refine hK _ _ ?_; clear hK K
              refine anyT_free 3 (.string ⟨s.toArray⟩) rfl (by decide) (by kernel_rfl) (by kernel_rfl) (by kernel_rfl) (fun _ _ _ h => h) (by rfl) (fun w' => by go_simp) (.inr trivial) (fun K hK => ?_); go_simp; refine hK _ _ ?_; clear hK K
              refine anyT_free 4 (.int .i64 (k : Int)) rfl (by decide) (by kernel_rfl) (by kernel_rfl) (by kernel_rfl) (fun _ _ _ h => h) (by rfl) (fun w' => by go_simp) (.inr trivial) (fun K hK => ?_); go_simp; refine hK _ _ ?_; clear hK K
              refine anyT_free 5 (.int .i64 ((k : Int) + 2)) rfl (by decide) (by kernel_rfl) (by kernel_rfl) (by kernel_rfl) (fun _ _ _ h => h) (by rfl) (fun w' => by go_simp) (.inr trivial) (fun K hK => ?_); go_simp; refine hK _ _ ?_; clear hK K
              refine anyT_free 6 (.string ⟨t.toArray⟩) rfl (by decide) (by kernel_rfl) (by kernel_rfl) (by kernel_rfl) (fun _ _ _ h => h) (by rfl) (fun w' => by go_simp) (.inr trivial) (fun K hK => ?_); go_simp; refine hK _ _ ?_; clear hK K
              refine anyT_free 7 (.agg #[.string ⟨(s.take k).toArray⟩, .string ⟨t.toArray⟩, .bool true]) rfl (by decide) (by kernel_rfl) (by kernel_rfl) (by kernel_rfl) (fun _ _ _ h => h) (by rfl) (fun w' => by go_simp) (.inr trivial) (fun K hK => ?_); go_simp; refine hK _ _ ?_; clear hK K
              refine anyT_one 8 (by kernel_rfl) rfl (by rfl) (fun K hK => ?_); go_simp; refine hK _ _ (.inl (by rfl)) ?_; clear hK K
              refine anyT_done (by kernel_rfl) ?_ _
              go_wp2_with fail
              refine bodyPost_ret (v := .agg #[.string ⟨(s.take k).toArray⟩, .string ⟨t.toArray⟩, .bool true]) (by simp [results, Tryz.results147, go_sem, p0, p1, p2]) rfl ?_
              exact ⟨rfl, ((hb1.setCell (Nat.le_refl _) _).setCell (Nat.le_refl _) _).setCell (Nat.le_refl _) _⟩
          · have c2 : ((y.toNat : Int) == 32) = false := u8i (c := 32) hy32
            by_cases hy58 : y = 58
            · have c1 : ((y.toNat : Int) == 58) = true := by rw [hy58]; rfl
              cases t with
              | nil =>
                simp only [List.length_nil] at hlen
                have g2 : decide ((k : Int) + 2 < (s.length : Int)) = false := decide_eq_false (by omega)
                have hr2 : ([], [], false) = RES := by rw [← hr, hy58]; rfl
                subst hr2
                clear hr hdr hlen hdr2 hex0 hex2
                go_wp2_with fail
                refine bodyPost_ret (v := .agg #[.string ⟨#[]⟩, .string ⟨#[]⟩, .bool false]) (by simp [results, Tryz.results147, go_sem, n0, n1, n2]) rfl ?_
                exact ⟨rfl, ((hb0.setCell (Nat.le_refl _) _).setCell (Nat.le_refl _) _).setCell (Nat.le_refl _) _⟩
              | cons z u =>
                simp only [List.length_cons] at hlen
                have g2 : decide ((k : Int) + 2 < (s.length : Int)) = true := decide_eq_true (by omega)
                have i4 : (k : Int) + 2 < (s.length : Int) := by omega
                have i5 : (k : Int) + 3 ≤ (s.length : Int) := by omega
                have i6 : (k : Int) ≤ (s.length : Int) := by omega
                have i7 : (0 : Int) ≤ (k : Int) + 3 := by omega
                have hg2 : ∀ h, (⟨s.toArray⟩ : ByteArray)[k + 2]'h = z := fun h => byte_of_drop (j := 2) (by rw [hdr]; rfl) h
                have hex3 : (⟨s.toArray⟩ : ByteArray).extract (k + 3) s.length = ⟨u.toArray⟩ := by
                  have hdr3 : s.drop (k + 3) = u := by
                    have := congrArg (List.drop 3) hdr
                    rw [List.drop_drop] at this
                    simpa using this
                  rw [Lib.extract_mk, List.take_of_length_le (by rw [List.length_drop]; omega), hdr3]
                by_cases hz : z = 32
                · have d1 : ((z.toNat : Int) == 32) = true := by rw [hz]; rfl
                  have hr2 : (s.take k, (unb u).getD [], (unb u).isSome) = RES := by rw [← hr, hy58, hz]; rfl
                  clear hz
                  subst hr2
                  have ku := RUnbase64_any u wr (by omega)
                  have HU := Lib.hid ku
                  clear hr hdr hlen hdr2 hex2 ku
                  cases hu : (unb u).isSome
                  · have ku := HU.out
                    rw [hu] at ku
                    simp only [Bool.false_eq_true, if_false] at ku
                    obtain ⟨V, hV⟩ : ∃ V, (unb u).getD [] = V := ⟨_, rfl⟩
                    rw [hV] at ku
                    have HV := Lib.hid hV
                    have HU2 := Lib.hid hu
                    clear HU hu hV
                    go_wp2_with (go_at_call 231; refine Calls.mono (show Calls _ _ _ _ _ from ku) ?_; rintro e w5 ⟨rfl, hb5⟩; have hk5 := (hb5.block w.heap.size (Array.getElem?_eq_some_iff.1 hk0).1).trans hk0; have p0 : w5.cell? ⟨w.heap.size, 0, none⟩ = some (.string ⟨#[]⟩) := (by rw [Lib.cell_of_heap hk5]; rfl); have p1 : w5.cell? ⟨w.heap.size, 1, none⟩ = some (.string ⟨#[]⟩) := (by rw [Lib.cell_of_heap hk5]; rfl); have p2 : w5.cell? ⟨w.heap.size, 2, none⟩ = some (.bool false) := (by rw [Lib.cell_of_heap hk5]; rfl); have e0 : w5.frozen? ⟨w.heap.size, 0, none⟩ = false := Lib.frozen_of_heap hk5 0; have e1 : w5.frozen? ⟨w.heap.size, 1, none⟩ = false := Lib.frozen_of_heap hk5 1; have e2 : w5.frozen? ⟨w.heap.size, 2, none⟩ = false := Lib.frozen_of_heap hk5 2)
                    refine bodyPost_ret (v := .agg #[.string ⟨(s.take k).toArray⟩, .string ⟨V.toArray⟩, .bool false]) (by simp [results, Tryz.results147, go_sem, p0, p1, p2]) rfl ?_
                    exact ⟨by rw [HV.out, HU2.out], (((below_ext hb0 hb5).setCell (Nat.le_refl _) _).setCell (Nat.le_refl _) _).setCell (Nat.le_refl _) _⟩
                  · have ku := HU.out
                    rw [hu] at ku
                    simp only [if_true] at ku
                    obtain ⟨V, hV⟩ : ∃ V, (unb u).getD [] = V := ⟨_, rfl⟩
                    rw [hV] at ku
                    have HV := Lib.hid hV
                    have HU2 := Lib.hid hu
                    clear HU hu hV
                    go_wp2_with (go_at_call 231; refine Calls.mono (show Calls _ _ _ _ _ from ku) ?_; rintro e w5 ⟨rfl, hb5⟩; have hk5 := (hb5.block w.heap.size (Array.getElem?_eq_some_iff.1 hk0).1).trans hk0; have p0 : w5.cell? ⟨w.heap.size, 0, none⟩ = some (.string ⟨#[]⟩) := (by rw [Lib.cell_of_heap hk5]; rfl); have p1 : w5.cell? ⟨w.heap.size, 1, none⟩ = some (.string ⟨#[]⟩) := (by rw [Lib.cell_of_heap hk5]; rfl); have p2 : w5.cell? ⟨w.heap.size, 2, none⟩ = some (.bool false) := (by rw [Lib.cell_of_heap hk5]; rfl); have e0 : w5.frozen? ⟨w.heap.size, 0, none⟩ = false := Lib.frozen_of_heap hk5 0; have e1 : w5.frozen? ⟨w.heap.size, 1, none⟩ = false := Lib.frozen_of_heap hk5 1; have e2 : w5.frozen? ⟨w.heap.size, 2, none⟩ = false := Lib.frozen_of_heap hk5 2)
                    refine bodyPost_ret (v := .agg #[.string ⟨(s.take k).toArray⟩, .string ⟨V.toArray⟩, .bool true]) (by simp [results, Tryz.results147, go_sem, p0, p1, p2]) rfl ?_
                    exact ⟨by rw [HV.out, HU2.out], (((below_ext hb0 hb5).setCell (Nat.le_refl _) _).setCell (Nat.le_refl _) _).setCell (Nat.le_refl _) _⟩
                · have d1 : ((z.toNat : Int) == 32) = false := u8i (c := 32) hz
                  have hr2 : ([], [], false) = RES := by
                    rw [← hr, hy58]
                    split
                    · rename_i heq
                      simp only [List.cons.injEq] at heq
                      exact absurd heq.2.2.1 hz
                    · rename_i heq
                      simp only [List.cons.injEq] at heq
                      exact absurd heq.2.1 (by decide)
                    · rfl
                  subst hr2
                  clear hr hdr hlen hdr2 hex0 hex2 hex3
                  go_wp2_with fail
                  refine bodyPost_ret (v := .agg #[.string ⟨#[]⟩, .string ⟨#[]⟩, .bool false]) (by simp [results, Tryz.results147, go_sem, n0, n1, n2]) rfl ?_
                  exact ⟨rfl, ((hb0.setCell (Nat.le_refl _) _).setCell (Nat.le_refl _) _).setCell (Nat.le_refl _) _⟩
            · have c1 : ((y.toNat : Int) == 58) = false := u8i (c := 58) hy58
              have hr2 : ([], [], false) = RES := by
                rw [← hr]
                split
                · rename_i heq
                  simp only [List.cons.injEq] at heq
                  exact absurd heq.2.1 hy58
                · rename_i heq
                  simp only [List.cons.injEq] at heq
                  exact absurd heq.2.1 hy32
                · rfl
              subst hr2
              have g2 : decide ((k : Int) + 2 < (s.length : Int)) = decide (0 < t.length) := decide_eq_decide.2 (by omega)
              cases ht : decide (0 < t.length)
              · rw [ht] at g2
                clear hr hdr hlen hdr2 hex0 hex2 ht
                go_wp2_with fail
                refine bodyPost_ret (v := .agg #[.string ⟨#[]⟩, .string ⟨#[]⟩, .bool false]) (by simp [results, Tryz.results147, go_sem, n0, n1, n2]) rfl ?_
                exact ⟨rfl, ((hb0.setCell (Nat.le_refl _) _).setCell (Nat.le_refl _) _).setCell (Nat.le_refl _) _⟩
              · rw [ht] at g2
                clear hr hdr hlen hdr2 hex0 hex2 ht
                go_wp2_with fail
                refine bodyPost_ret (v := .agg #[.string ⟨#[]⟩, .string ⟨#[]⟩, .bool false]) (by simp [results, Tryz.results147, go_sem, n0, n1, n2]) rfl ?_
                exact ⟨rfl, ((hb0.setCell (Nat.le_refl _) _).setCell (Nat.le_refl _) _).setCell (Nat.le_refl _) _⟩
      · have b1 : ((x.toNat : Int) != 58) = true := u8n (c := 58) hx
        have hno2 : ∀ c ∈ s.take (k + 1), c ≠ 58 := by
          intro c hc
          rw [List.take_add_one] at hc
          rcases List.mem_append.1 hc with hc | hc
          · exact HN.out c hc
          · have hsk : s[k]? = some x := by
              have := congrArg List.head? hdr
              rw [List.head?_drop] at this
              exact this
            rw [hsk] at hc
            simp at hc
            subst hc
            exact hx
        have H2 := Lib.hid hno2
        clear hno2 hno HN HR hdr hlen hx n0 n1 n2 f0 f1 f2
        go_wp2_with fail
        go_roundw
        case rel => exact ⟨trivial, k + 1, by go_num, by omega, H2.out⟩
        case measure => simp [RowKit.intOf]; omega
end Go.Proofs.YtegigcneimjimaaGreatDoor
