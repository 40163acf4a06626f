/- Chapter 18, plain: records one behind the other. -/
import Derived.Test.YtehpdodjncabkaaDoorPlainRd
import Derived.Lib.IndexLaws
namespace Go.Proofs.YtehpdodjncabkaaDoor
open Go.Lib

def sep2 : List UInt8 := [10, 10]
/-- What all of a text is read as. -/
def allF : Nat → List UInt8 → Option (List Chg)
  | 0, s => if s = [] then some [] else none
  | n + 1, s => if s = [] then some [] else
    if index s sep2 < 0 then none else match parseC (s.take ((index s sep2).toNat + 2)) with
    | none => none
    | some c => (allF n (s.drop ((index s sep2).toNat + 2))).map (c :: ·)
def allC (s : List UInt8) : Option (List Chg) := if 65536 < s.length then none else allF s.length s
theorem allF_fuel : ∀ (n m : Nat) (s : List UInt8), s.length ≤ n → s.length ≤ m → allF n s = allF m s
  | 0, 0, _, _, _ => rfl
  | 0, m + 1, s, h, _ => by
    have e : s = [] := List.length_eq_zero_iff.1 (by omega)
    subst e; simp [allF]
  | n + 1, 0, s, _, h => by
    have e : s = [] := List.length_eq_zero_iff.1 (by omega)
    subst e; simp [allF]
  | n + 1, m + 1, s, h1, h2 => by
    unfold allF
    by_cases hs : s = []
    · rw [if_pos hs, if_pos hs]
    · rw [if_neg hs, if_neg hs]
      have hp : 0 < s.length := List.length_pos_iff.2 hs
      rw [allF_fuel n m (s.drop ((index s sep2).toNat + 2)) (by simp only [List.length_drop]; omega) (by simp only [List.length_drop]; omega)]
theorem allF_cases {s : List UInt8} (h : s ≠ []) : (index s sep2 < 0 → allF s.length s = none) ∧ ∀ n : Nat, index s sep2 = (n : Int) →
    (parseC (s.take (n + 2)) = none → allF s.length s = none) ∧ ∀ c, parseC (s.take (n + 2)) = some c → allF s.length s = (allF (s.drop (n + 2)).length (s.drop (n + 2))).map (c :: ·) := by
  obtain ⟨m, hm⟩ : ∃ m, s.length = m + 1 := ⟨s.length - 1, by have : 0 < s.length := List.length_pos_iff.2 h; omega⟩
  have e : allF s.length s = if index s sep2 < 0 then none else match parseC (s.take ((index s sep2).toNat + 2)) with
      | none => none
      | some c => (allF m (s.drop ((index s sep2).toNat + 2))).map (c :: ·) := by
    rw [hm]
    conv => lhs; unfold allF
    rw [if_neg h]
  refine ⟨fun hn => by rw [e, if_pos hn], fun n hn => ?_⟩
  rw [hn, if_neg (by omega), show ((n : Int)).toNat = n by omega] at e
  refine ⟨fun hp => by rw [e, hp], fun c hp => ?_⟩
  rw [e, hp]
  simp only
  rw [allF_fuel m (s.drop (n + 2)).length (s.drop (n + 2)) (by simp only [List.length_drop]; omega) (Nat.le_refl _)]
def joinL : List (List UInt8) → List UInt8
  | [] => []
  | [p] => p
  | p :: q :: t => p ++ 10 :: joinL (q :: t)
theorem joinL_cut : ∀ s : List UInt8, joinL (cutL s) = s
  | [] => rfl
  | c :: t => by
    have ih := joinL_cut t
    have hn := cutL_ne t
    unfold cutL
    split
    · rename_i hc
      subst hc
      cases hq : cutL t with
      | nil => exact absurd hq hn
      | cons p ps => rw [hq] at ih; simp [joinL, ih]
    · cases hq : cutL t with
      | nil => exact absurd hq hn
      | cons p ps =>
        rw [hq] at ih
        cases ps with
        | nil => simp [joinL] at ih ⊢; exact ih
        | cons q ps => simp [joinL] at ih ⊢; exact ih
theorem cutL_free : ∀ (s p : List UInt8), p ∈ cutL s → ∀ c ∈ p, c ≠ 10
  | [], p, h, c, hc => by simp [cutL] at h; subst h; cases hc
  | d :: t, p, h, c, hc => by
    have ih := cutL_free t
    unfold cutL at h
    split at h
    · rcases List.mem_cons.1 h with rfl | h
      · cases hc
      · exact ih p h c hc
    · rename_i hd
      cases hq : cutL t with
      | nil => exact absurd hq (cutL_ne t)
      | cons q ps =>
        rw [hq] at h ih
        simp only at h
        rcases List.mem_cons.1 h with rfl | h
        · rcases List.mem_cons.1 hc with rfl | hc
          · exact hd
          · exact ih q (by simp) c hc
        · exact ih p (by simp [h]) c hc
theorem cutL_end : ∀ s : List UInt8, cutL (s ++ [10]) = cutL s ++ [[]]
  | [] => by decide
  | c :: t => by
    have ih := cutL_end t
    simp only [List.cons_append, cutL]
    split
    · rw [ih]; rfl
    · rw [ih]
      cases hq : cutL t with
      | nil => exact absurd hq (cutL_ne t)
      | cons p ps => rfl
theorem index_none_step (c : UInt8) (x : List UInt8) (n : Nat) (hc : sep2.isPrefixOf (c :: x) = false) (h : index x sep2 = (n : Int)) : index (c :: x) sep2 = ((n + 1 : Nat) : Int) := by
  unfold index
  rw [hc, h]
  have : (((n : Int)) == -1) = false := by
    rw [beq_eq_false_iff_ne]; omega
  rw [this]
  simp
theorem index_line : ∀ (p x : List UInt8) (n : Nat), (∀ c ∈ p, c ≠ 10) → index x sep2 = (n : Int) → index (p ++ x) sep2 = ((p.length + n : Nat) : Int)
  | [], x, n, _, h => by simpa using h
  | c :: p, x, n, hp, h => by
    have ih := index_line p x n (fun d hd => hp d (by simp [hd])) h
    have hc : sep2.isPrefixOf (c :: (p ++ x)) = false := by
      have : (10 == c) = false := by simpa using fun e => hp c (by simp) e.symm
      simp [sep2, List.isPrefixOf, this]
    have := index_none_step c (p ++ x) (p.length + n) hc ih
    rw [List.cons_append, this]
    congr 1
    simp only [List.length_cons]
    omega
theorem index_join : ∀ (ps : List (List UInt8)) (r : List UInt8), ps ≠ [] → (∀ p ∈ ps, p ≠ [] ∧ ∀ c ∈ p, c ≠ 10) →
    2 ≤ (joinL (ps ++ [[], []])).length ∧ index (joinL (ps ++ [[], []]) ++ r) sep2 = (((joinL (ps ++ [[], []])).length - 2 : Nat) : Int)
  | [], _, h, _ => absurd rfl h
  | [p], r, _, hp => by
    have h0 : index (10 :: 10 :: r) sep2 = ((0 : Nat) : Int) := by
      unfold index
      simp [sep2, List.isPrefixOf]
    have h1 := index_line p (10 :: 10 :: r) 0 (hp p (by simp)).2 h0
    have e : joinL ([p] ++ [[], []]) = p ++ [10, 10] := by simp [joinL]
    rw [e]
    refine ⟨by simp, ?_⟩
    have e2 : p ++ [10, 10] ++ r = p ++ 10 :: 10 :: r := by simp
    rw [e2, h1]
    congr 1
    simp
  | p :: q :: t, r, _, hp => by
    obtain ⟨i1, i2⟩ := index_join (q :: t) r (by simp) (fun x hx => hp x (by simp [hx]))
    obtain ⟨J, hJ⟩ : ∃ J, joinL (q :: t ++ [[], []]) = J := ⟨_, rfl⟩
    have e : joinL (p :: q :: t ++ [[], []]) = p ++ 10 :: J := by rw [← hJ]; simp [joinL]
    have hq : ∃ d J', J = d :: J' ∧ d ≠ 10 := by
      obtain ⟨h1, h2⟩ := hp q (by simp)
      cases q with
      | nil => exact absurd rfl h1
      | cons d q =>
        rw [← hJ]
        cases t with
        | nil => exact ⟨d, q ++ [10, 10], by simp [joinL], h2 d (by simp)⟩
        | cons u t => exact ⟨d, _, by simp only [List.cons_append, joinL]; rfl, h2 d (by simp)⟩
    rw [hJ] at i1 i2
    obtain ⟨d, J', hd, hd10⟩ := hq
    have hc : sep2.isPrefixOf (10 :: (J ++ r)) = false := by
      rw [hd]
      have : (10 == d) = false := by simpa using fun e => hd10 e.symm
      simp [sep2, List.isPrefixOf, this]
    have h1 := index_none_step 10 (J ++ r) _ hc i2
    have h2 := index_line p (10 :: (J ++ r)) _ (hp p (by simp)).2 h1
    rw [e]
    refine ⟨by simp; omega, ?_⟩
    have e2 : p ++ 10 :: J ++ r = p ++ 10 :: (J ++ r) := by simp
    rw [e2, h2]
    congr 1
    simp only [List.length_append, List.length_cons]
    omega
def End10 (s : List UInt8) : Prop := s = [] ∨ ∃ y, s = y ++ [10]
theorem End10.append {a b : List UInt8} (ha : End10 a) (hb : End10 b) : End10 (a ++ b) := by
  rcases hb with rfl | ⟨y, rfl⟩
  · rw [List.append_nil]; exact ha
  · exact .inr ⟨a ++ y, by simp⟩
theorem End10.line (n v : List UInt8) : End10 (lineB n v) := .inr ⟨lineP n v, lineB_P n v⟩
theorem End10.flat {α : Type} (f : α → List UInt8) (h : ∀ x, End10 (f x)) : ∀ l : List α, End10 (l.flatMap f)
  | [] => .inl rfl
  | x :: l => by rw [List.flatMap_cons]; exact (h x).append (End10.flat f h l)
theorem End10.rest (c : Chg) : End10 (restC c) := by
  unfold restC
  split
  · exact End10.flat _ (fun a => End10.flat _ (fun v => End10.line _ _) _) _
  · split
    · exact End10.flat _ (fun m => (((End10.line _ _).append (End10.flat _ (fun v => End10.line _ _) _)).append (.inr ⟨[45], rfl⟩))) _
    · split
      · unfold moveB
        cases c.hasSup
        · exact (((End10.line _ _).append (End10.line _ _)).append (.inl rfl))
        · exact (((End10.line _ _).append (End10.line _ _)).append (End10.line _ _))
      · exact .inl rfl
theorem names_ne (c : Chg) (h : rightC c = true) : ∀ q ∈ headPs c ++ restPs c, q.1 ≠ [] := by
  simp only [rightC, Bool.and_eq_true] at h
  obtain ⟨⟨_, ha⟩, hm⟩ := h
  intro q hq
  rcases List.mem_append.1 hq with hq | hq
  · simp only [headPs, List.mem_cons, List.not_mem_nil, or_false] at hq
    rcases hq with rfl | rfl | rfl | rfl <;> simp [wTime, wWho, wDn, wType]
  · unfold restPs at hq
    split at hq
    · unfold attrPs at hq
      obtain ⟨a, h1, h2⟩ := List.mem_flatMap.1 hq
      obtain ⟨v, _, rfl⟩ := List.mem_map.1 h2
      exact (type_sep (attrs_types _ _ ha a h1)).1.1
    · split at hq
      · unfold modPs at hq
        obtain ⟨m, h1, h2⟩ := List.mem_flatMap.1 hq
        unfold modPs1 at h2
        simp only [List.cons_append, List.mem_cons, List.mem_append, List.mem_map, List.not_mem_nil, or_false] at h2
        rcases h2 with rfl | ⟨v, _, rfl⟩ | rfl
        · exact (opW_sep _).1
        · exact (type_sep (mods_types _ hm m h1).2).1.1
        · simp
      · split at hq
        · unfold movePs at hq
          cases hs : c.hasSup
          · rw [hs] at hq
            simp only [List.mem_append, List.mem_cons, List.not_mem_nil, or_false, Bool.false_eq_true, if_false] at hq
            rcases hq with rfl | rfl <;> simp [wRdn, wOld]
          · rw [hs] at hq
            simp only [List.mem_append, List.mem_cons, List.not_mem_nil, or_false, if_true] at hq
            rcases hq with (rfl | rfl) | rfl <;> simp [wRdn, wOld, wSup]
        · cases hq
theorem text_join {c : Chg} (h : rightC c = true) : ∃ ps : List (List UInt8), ps ≠ [] ∧ (∀ p ∈ ps, p ≠ [] ∧ ∀ d ∈ p, d ≠ 10) ∧ textC c = joinL (ps ++ [[], []]) := by
  have h1 : ∃ y, headC c ++ restC c = y ++ [10] := by
    have e : End10 (headC c ++ restC c) := by
      unfold headC
      exact ((((End10.line _ _).append (End10.line _ _)).append (End10.line _ _)).append (End10.line _ _)).append (End10.rest c)
    rcases e with e | e
    · exact absurd e (by simp [headC, lineB]; split <;> simp)
    · exact e
  obtain ⟨y, hy⟩ := h1
  have ht : textC c = y ++ [10] ++ [10] := by unfold textC; rw [hy]
  have hc : cutL (textC c) = cutL y ++ [[], []] := by rw [ht, cutL_end, cutL_end]; simp
  have hp := text_pairs c h
  rw [hc, List.map_append] at hp
  have hp2 : (cutL y).map pairB = headPs c ++ restPs c := by
    have e : headPs c ++ (restPs c ++ endPs) = (headPs c ++ restPs c) ++ endPs := by simp
    rw [e] at hp
    have : ([[], []] : List (List UInt8)).map pairB = endPs := by simp [pairB_nil, endPs]
    rw [this] at hp
    exact List.append_cancel_right hp
  refine ⟨cutL y, cutL_ne y, fun p hpm => ⟨?_, cutL_free y p hpm⟩, by rw [← hc, joinL_cut]⟩
  rintro rfl
  have hm : pairB [] ∈ headPs c ++ restPs c := by rw [← hp2]; exact List.mem_map_of_mem hpm
  rw [pairB_nil] at hm
  exact names_ne c h _ hm rfl
theorem print_index {c : Chg} {t : List UInt8} (h : printC c = (t, 0)) (r : List UInt8) : 2 ≤ t.length ∧ index (t ++ r) sep2 = ((t.length - 2 : Nat) : Int) := by
  obtain ⟨hr, rfl, _⟩ := printC_text h
  obtain ⟨ps, h0, h1, h2⟩ := text_join hr
  rw [h2]
  exact index_join ps r h0 h1
theorem allF_cat : ∀ (cs : List Chg) (ts : List (List UInt8)) (n : Nat), cs.map printC = ts.map (fun t => (t, 0)) → ts.flatten.length ≤ n → allF n ts.flatten = some cs
  | [], [], n, _, _ => by cases n <;> simp [allF]
  | [], _ :: _, _, h, _ => by simp at h
  | _ :: _, [], _, h, _ => by simp at h
  | c :: cs, t :: ts, n, h, hn => by
    simp only [List.map_cons, List.cons.injEq] at h
    obtain ⟨h1, h2⟩ := h
    obtain ⟨g1, g2⟩ := print_index h1 ts.flatten
    rw [List.flatten_cons] at hn ⊢
    rw [List.length_append] at hn
    cases n with
    | zero => omega
    | succ n =>
      have ih := allF_cat cs ts n h2 (by omega)
      unfold allF
      have hne : t ++ ts.flatten ≠ [] := by
        intro e
        have := congrArg List.length e
        simp only [List.length_append, List.length_nil] at this
        omega
      rw [if_neg hne, g2, if_neg (by omega)]
      have e : ((t.length - 2 : Nat) : Int).toNat + 2 = t.length := by omega
      rw [e, List.take_left, List.drop_left, parse_back h1, ih]
      rfl
theorem allC_cat (cs : List Chg) (ts : List (List UInt8)) (h : cs.map printC = ts.map (fun t => (t, 0))) (hl : ts.flatten.length ≤ 65536) : allC ts.flatten = some cs := by
  unfold allC
  rw [if_neg (by omega)]
  exact allF_cat cs ts _ h (Nat.le_refl _)
end Go.Proofs.YtehpdodjncabkaaDoor
