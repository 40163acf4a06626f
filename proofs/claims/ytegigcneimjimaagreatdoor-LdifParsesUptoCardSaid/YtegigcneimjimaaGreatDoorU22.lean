/- PlainRs, RwD, LwB, PlainRv. -/
import Derived.Test.YtegigcneimjimaaGreatDoorU19
import Derived.Test.YtegigcneimjimaaGreatDoorU21
namespace Go.Proofs.YtegigcneimjimaaGreatDoor
open Go.Lib
open Go.RowKit Go.Lib
set_option maxRecDepth 100000
set_option maxHeartbeats 16000000
def lnS (l : List (List UInt8)) : Nat := (l.map fun p => p.length + 1).sum
theorem lnS_app (a b : List (List UInt8)) : lnS (a ++ b) = lnS a + lnS b := by simp [lnS]
theorem lnS_cons (p : List UInt8) (b : List (List UInt8)) : lnS (p :: b) = p.length + 1 + lnS b := by simp [lnS]
theorem oneF_sum : ∀ (s cur : List UInt8) (acc : List (List UInt8)) (i : Nat), (∀ p ∈ acc, p ≠ []) → lnS (oneF s cur acc i).1 ≤ lnS acc + cur.length + s.length ∧ ∀ p ∈ (oneF s cur acc i).1, p ≠ []
  | [], cur, acc, i, h => ⟨by simp only [oneF]; omega, h⟩
  | c :: t, cur, acc, i, h => by
    rw [oneF]
    split
    · split
      · exact ⟨by show lnS acc ≤ _; omega, h⟩
      · rename_i hc
        obtain ⟨h1, h2⟩ := oneF_sum t [] (acc ++ [cur]) (i + 1) (fun p hp => by
          rcases List.mem_append.1 hp with hp | hp
          · exact h p hp
          · simp at hp; subst hp; exact hc)
        refine ⟨?_, h2⟩
        rw [lnS_app] at h1
        have : lnS [cur] = cur.length + 1 := by simp [lnS]
        simp only [List.length_nil, List.length_cons] at h1 ⊢
        omega
    · obtain ⟨h1, h2⟩ := oneF_sum t (cur ++ [c]) acc (i + 1) h
      refine ⟨?_, h2⟩
      simp only [List.length_append, List.length_cons, List.length_nil] at h1 ⊢
      omega
theorem oneR_sum (s : List UInt8) : lnS (oneR s).1 ≤ s.length ∧ ∀ p ∈ (oneR s).1, p ≠ [] := by
  obtain ⟨h1, h2⟩ := oneF_sum s [] [] 0 (fun p hp => by cases hp)
  have h0 : lnS [] = 0 := rfl
  unfold oneR
  simp only [List.length_nil] at h1
  exact ⟨by omega, h2⟩
theorem lnS_two : ∀ l : List (List UInt8), (∀ p ∈ l, p ≠ []) → 2 * l.length ≤ lnS l ∧ ∀ p ∈ l, 2 * l.length + p.length ≤ lnS l + 1
  | [], _ => ⟨by simp [lnS], fun p hp => by cases hp⟩
  | q :: l, h => by
    obtain ⟨h1, h2⟩ := lnS_two l (fun p hp => h p (by simp [hp]))
    have hq : 0 < q.length := List.length_pos_iff.2 (h q (by simp))
    rw [lnS_cons, List.length_cons]
    refine ⟨by omega, fun p hp => ?_⟩
    rcases List.mem_cons.1 hp with rfl | hp
    · omega
    · have := h2 p hp; omega
theorem splitR_le (s : List UInt8) : (splitR s).1.length ≤ s.length ∧ (splitR s).2.1.length ≤ s.length := by
  have h1 : (s.takeWhile (fun c => c != 58)).length ≤ s.length := (List.takeWhile_sublist _).length_le
  have h2 : (s.dropWhile (fun c => c != 58)).length ≤ s.length := (List.dropWhile_sublist _).length_le
  unfold splitR
  split
  · rename_i b hb
    rw [hb] at h2
    simp only [List.length_cons] at h2
    refine ⟨h1, ?_⟩
    simp only
    cases hu : unb b with
    | none => simp
    | some d =>
      have := (unb_some _ _).1 hu
      have h5 := b64_length d.length d (Nat.le_refl _)
      rw [this] at h5
      simp only [Option.getD_some]
      omega
  · rename_i hb
    rw [hb] at h2
    simp only [List.length_cons] at h2
    exact ⟨h1, by simp only; omega⟩
  · simp
theorem snd2_up (x : List UInt8) : wtP (snd2 x) ≤ 3 * x.length + 8 := by
  obtain ⟨h1, h2⟩ := splitR_le x
  unfold wtP snd2
  simp only
  omega
theorem snds_up : ∀ l : List (List UInt8), wtL (l.map snd2) ≤ 11 * lnS l
  | [] => by simp [wtL]
  | x :: l => by
    have h1 := snds_up l
    have h2 := snd2_up x
    rw [List.map_cons, wtL_cons, lnS_cons]
    omega
theorem addF_up : ∀ (l : List Pr) (acc : List At), (attrB (addF l acc)).length ≤ (attrB acc).length + wtL l
  | [], acc => by simp [addF]
  | p :: t, acc => by
    rw [addF, wtL_cons]
    have h1 := addF_up t (putA p acc)
    have h2 := putA_up p acc
    omega
theorem putA_ne (p : Pr) (acc : List At) (h : ∀ x ∈ acc, x.2 ≠ []) : ∀ x ∈ putA p acc, x.2 ≠ [] := by
  intro x hx
  unfold putA at hx
  split at hx
  · split at hx
    · rcases List.mem_append.1 hx with hx | hx
      · exact h x (List.dropLast_subset _ hx)
      · simp at hx; subst hx; simp
    · rcases List.mem_append.1 hx with hx | hx
      · exact h x hx
      · simp at hx; subst hx; simp
  · simp at hx; subst hx; simp
theorem addF_ne : ∀ (l : List Pr) (acc : List At), (∀ x ∈ acc, x.2 ≠ []) → ∀ x ∈ addF l acc, x.2 ≠ []
  | [], acc, h => h
  | p :: t, acc, h => by
    rw [addF]
    exact addF_ne t _ (putA_ne p acc h)
theorem modB_app (a b : List Md) : modB (a ++ b) = modB a ++ modB b := by simp [modB]
theorem putM_up (v : List UInt8) (ms : List Md) (M : Nat) (h : ∀ m ∈ ms, m.2.1.length ≤ M) : (modB (putM v ms)).length ≤ (modB ms).length + (M + 2 * v.length + 8) ∧ ∀ m ∈ putM v ms, m.2.1.length ≤ M := by
  unfold putM
  split
  · rename_i m hm
    obtain ⟨init, hi⟩ := List.getLast?_eq_some_iff.1 hm
    subst hi
    have hM := h m (by simp)
    have hl := lineB_up m.2.1 v
    rw [List.dropLast_concat]
    refine ⟨?_, fun x hx => ?_⟩
    · have e1 : modB [(m.1, m.2.1, m.2.2 ++ [v])] = lineB (opW m.1) m.2.1 ++ (valsB m.2.1 m.2.2 ++ lineB m.2.1 v) ++ [45, 10] := by simp [modB, modB1, valsB]
      have e2 : modB [m] = lineB (opW m.1) m.2.1 ++ valsB m.2.1 m.2.2 ++ [45, 10] := by simp [modB, modB1]
      rw [modB_app, modB_app, e1, e2]
      simp only [List.length_append]
      omega
    · rcases List.mem_append.1 hx with hx | hx
      · exact h x (by simp [hx])
      · simp at hx; subst hx; exact hM
  · exact ⟨by simp [modB], fun m hm => by cases hm⟩
theorem opW_up (k : Int) : (opW k).length ≤ 7 := by
  unfold opW
  split
  · decide
  · split <;> decide
theorem modF_up (M : Nat) : ∀ (l : List (List UInt8)) (ms : List Md) (o : Bool), (∀ s ∈ l, s.length ≤ M) → (∀ m ∈ ms, m.2.1.length ≤ M) → (modB (modF l ms o)).length ≤ (modB ms).length + l.length * (M + 30) + 2 * lnS l
  | [], ms, o, _, _ => by simp [modF]
  | s :: t, ms, o, hl, hm => by
    have hs := hl s (by simp)
    obtain ⟨h1, h2⟩ := splitR_le s
    have ht := fun x hx => hl x (List.mem_cons_of_mem s hx)
    rw [modF, List.length_cons, Nat.succ_mul, lnS_cons]
    split
    · have := modF_up M t ms false ht hm; omega
    · split
      · obtain ⟨q1, q2⟩ := putM_up (snd2 s).2 ms M hm
        have h3 := modF_up M t _ true ht q2
        have h9 : (snd2 s).2.length ≤ s.length := h2
        omega
      · have q2 : ∀ m ∈ ms ++ [(opN (snd2 s).1, (snd2 s).2, ([] : List (List UInt8)))], m.2.1.length ≤ M := fun m hmm => by
          rcases List.mem_append.1 hmm with hmm | hmm
          · exact hm m hmm
          · simp at hmm; subst hmm; unfold snd2; simp only; omega
        have h3 := modF_up M t _ true ht q2
        have e1 : (modB [(opN (snd2 s).1, (snd2 s).2, ([] : List (List UInt8)))]).length = (lineB (opW (opN (snd2 s).1)) (snd2 s).2).length + 2 := by simp [modB, modB1, valsB]
        have h4 := lineB_up (opW (opN (snd2 s).1)) (snd2 s).2
        have h5 := opW_up (opN (snd2 s).1)
        have h9 : (snd2 s).2.length ≤ s.length := h2
        rw [modB_app, List.length_append, e1] at h3
        omega
theorem sq_le (m x y : Nat) (h : x + y ≤ 2 * m) : x * y ≤ m * m := by
  rcases Nat.le_total x m with hx | hx
  · obtain ⟨d, hd⟩ := Nat.le.dest hx
    have hy : y ≤ m + d := by omega
    have h1 : x * y ≤ x * (m + d) := Nat.mul_le_mul_left x hy
    have h2 : x * (m + d) + d * d = m * m := by
      rw [← hd]
      simp only [Nat.mul_add, Nat.add_mul]
      rw [Nat.mul_comm d x]
      omega
    omega
  · obtain ⟨d, hd⟩ := Nat.le.dest hx
    have hy : y + d ≤ m := by omega
    have h1 : y ≤ m - d := by omega
    obtain ⟨e, he⟩ := Nat.le.dest hy
    have h2 : x * y ≤ (m + d) * y := by rw [hd]; exact Nat.le_refl _
    have h3 : (m + d) * y ≤ m * m := by
      have hm : m = y + d + e := by omega
      rw [hm]
      simp only [Nat.mul_add, Nat.add_mul]
      have e1 := Nat.mul_comm d y
      have e2 := Nat.mul_comm e y
      omega
    omega
theorem small_rec (text : List UInt8) (h : text.length ≤ 65536) : Small (recF (oneR text).1) := by
  obtain ⟨l, hl⟩ : ∃ l, (oneR text).1 = l := ⟨_, rfl⟩
  obtain ⟨h1, h2⟩ := oneR_sum text
  rw [hl] at h1 h2 ⊢
  obtain ⟨n1, n2⟩ := lnS_two l h2
  obtain ⟨c, hc⟩ : ∃ c, recF l = c := ⟨_, rfl⟩
  rw [hc]
  by_cases h4 : l.length < 4
  · have e : c = ⟨[], [], [], 0, [], [], [], [], false, false⟩ := by rw [← hc, recF, if_pos h4]
    rw [e]
    exact small_of _ (by decide) (fun x hx => by cases hx) (by decide) (by decide) (by decide +kernel)
  · have hv : ∀ i : Nat, (((l.map snd2)[i]?.getD (([], []) : Pr)).2).length ≤ 65536 := by
      intro i
      rw [List.getElem?_map]
      cases hi : l[i]? with
      | none => simp
      | some s =>
        have h5 := n2 s (List.mem_of_getElem? hi)
        have h6 := (splitR_le s).2
        simp only [Option.map_some, Option.getD_some, snd2]
        omega
    obtain ⟨v, hvv⟩ : ∃ v : Nat → List UInt8, (fun i : Nat => ((l.map snd2)[i]?.getD (([], []) : Pr)).2) = v := ⟨_, rfl⟩
    have hv' : ∀ i, (v i).length ≤ 65536 := fun i => by rw [← hvv]; exact hv i
    have e : c = ⟨v 0, v 1, v 2, kindN (v 3), if kindN (v 3) = 0 then addF ((l.drop 4).map snd2) [] else [], if kindN (v 3) = 2 then modF (l.drop 4) [] false else [],
      if kindN (v 3) = 3 then v 4 else [], if kindN (v 3) = 3 then v 6 else [], decide (kindN (v 3) = 3) && decide (v 5 = [49]), decide (kindN (v 3) = 3) && decide (6 < l.length)⟩ := by
      rw [← hc, recF, if_neg h4, ← hvv]
    have hS : lnS (l.drop 4) ≤ 65536 := by
      have : lnS l = lnS (l.take 4) + lnS (l.drop 4) := by rw [← lnS_app, List.take_append_drop]
      omega
    have hA : (attrB (addF ((l.drop 4).map snd2) [])).length ≤ 1000000 := by
      have q1 := addF_up ((l.drop 4).map snd2) []
      have q2 := snds_up (l.drop 4)
      have q3 : (attrB []).length = 0 := rfl
      omega
    have hM : (modB (modF (l.drop 4) [] false)).length ≤ 700000000 := by
      obtain ⟨d1, d2⟩ := lnS_two (l.drop 4) (fun p hp => h2 p (List.drop_subset _ _ hp))
      have q1 := modF_up (65537 - 2 * (l.drop 4).length) (l.drop 4) [] false (fun s hs => by have := d2 s hs; omega) (fun m hm => by cases hm)
      have q3 : (modB []).length = 0 := rfl
      obtain ⟨n, hn⟩ : ∃ n, (l.drop 4).length = n := ⟨_, rfl⟩
      rw [hn] at q1 d1
      have q5 := sq_le 32769 (2 * n) (65537 - 2 * n) (by omega)
      rw [Nat.mul_assoc] at q5
      rw [Nat.mul_add] at q1
      omega
    have hT : (textC c).length ≤ 900000000 := by
      have a0 := lineB_up [116, 105, 109, 101] (v 0)
      have a1 := lineB_up [119, 104, 111] (v 1)
      have a2 := lineB_up [100, 110] (v 2)
      have a3 := lineB_up [99, 104, 97, 110, 103, 101, 116, 121, 112, 101] (kindW c.kind)
      have a4 : (kindW c.kind).length ≤ 6 := by
        unfold kindW
        split
        · decide
        · split
          · decide
          · split <;> decide
      have v0 := hv' 0
      have v1 := hv' 1
      have v2 := hv' 2
      have v4 := hv' 4
      have v6 := hv' 6
      have hr : (restC c).length ≤ 800000000 := by
        unfold restC
        split
        · rename_i hk
          rw [e] at hk ⊢
          simp only at hk ⊢
          rw [if_pos hk]
          omega
        · split
          · rename_i hk
            rw [e] at hk ⊢
            simp only at hk ⊢
            rw [if_pos hk]
            omega
          · split
            · have b1 := lineB_up [110, 101, 119, 114, 100, 110] c.newRdn
              have b2 := lineB_up [100, 101, 108, 101, 116, 101, 111, 108, 100, 114, 100, 110] (if c.delOld then [49] else [48])
              have b3 := lineB_up [110, 101, 119, 115, 117, 112, 101, 114, 105, 111, 114] c.newSup
              have b4 : (if c.delOld then ([49] : List UInt8) else [48]).length ≤ 1 := by split <;> decide
              have b5 : c.newRdn.length ≤ 65536 := by
                rw [e]
                show (if kindN (v 3) = 3 then _ else _ : List UInt8).length ≤ _
                split
                · exact hv' _
                · exact Nat.zero_le _
              have b6 : c.newSup.length ≤ 65536 := by
                rw [e]
                show (if kindN (v 3) = 3 then _ else _ : List UInt8).length ≤ _
                split
                · exact hv' _
                · exact Nat.zero_le _
              unfold moveB
              rw [List.length_append, List.length_append]
              have b7 : (if c.hasSup then lineB [110, 101, 119, 115, 117, 112, 101, 114, 105, 111, 114] c.newSup else []).length ≤ (lineB [110, 101, 119, 115, 117, 112, 101, 114, 105, 111, 114] c.newSup).length := by split <;> simp
              simp only [List.length_cons, List.length_nil] at b1 b2 b3
              omega
            · simp
      have e0 : c.time = v 0 := by rw [e]
      have e1 : c.who = v 1 := by rw [e]
      have e2 : c.dn = v 2 := by rw [e]
      unfold textC headC
      rw [e0, e1, e2]
      simp only [List.length_append, List.length_cons, List.length_nil] at a0 a1 a2 a3 ⊢
      omega
    refine small_of c ⟨by have := hv' 0; rw [e]; exact Nat.le_trans this (by decide), by have := hv' 1; rw [e]; exact Nat.le_trans this (by decide), by have := hv' 2; rw [e]; exact Nat.le_trans this (by decide), ?_, ?_⟩ ?_ ?_ ?_ (by omega)
    · have := hv' 4
      rw [e]; show (if kindN (v 3) = 3 then _ else _ : List UInt8).length ≤ _; split
      · omega
      · simp
    · have := hv' 6
      rw [e]; show (if kindN (v 3) = 3 then _ else _ : List UInt8).length ≤ _; split
      · omega
      · simp
    · rw [e]; simp only; split
      · exact addF_ne _ _ (fun x hx => by cases hx)
      · exact fun x hx => by cases hx
    · rw [e]; simp only; split
      · omega
      · simp [attrB]
    · rw [e]; simp only; split
      · omega
      · simp [modB]
theorem AO.g1 {N : Nat} {w w' : World} {v : Value} {l : List At} (h : AO (N + 1) w v l) (hg : w.grownBy w' (some N)) : AO N w' v l := by
  obtain ⟨us, h1, h2, h3⟩ := h
  exact ⟨us, own_lower (h1.kept hg (.inr (fun e => by have := (h1.lt N e).1; omega))) (by omega), h2, fun j x u a b => own_lower ((h3 j x u a b).kept hg (.inr (fun e => by have := ((h3 j x u a b).lt N e).1; omega))) (by omega)⟩
theorem MO.g1 {N : Nat} {w w' : World} {v : Value} {l : List Md} (h : MO (N + 1) w v l) (hg : w.grownBy w' (some N)) : MO N w' v l := by
  obtain ⟨us, h1, h2, h3⟩ := h
  exact ⟨us, own_lower (h1.kept hg (.inr (fun e => by have := (h1.lt N e).1; omega))) (by omega), h2, fun j x u a b => own_lower ((h3 j x u a b).kept hg (.inr (fun e => by have := ((h3 j x u a b).lt N e).1; omega))) (by omega)⟩
def RPP (text : List UInt8) (w : World) (e : Ending) (w' : World) : Prop :=
  Below w.heap.size w w' ∧ match parseC text with
  | some c => ∃ vA vM, e = .returned (.tuple #[.agg (chgA c vA vM), .int .i64 0]) ∧ AO w.heap.size w' vA c.attrs ∧ MO w.heap.size w' vM c.mods
  | none => e = .returned (.tuple #[.agg (chgA zeroC (.slice none 0 0) (.slice none 0 0)), .int .i64 (if 65536 < text.length then 2 else 110)])
theorem RParse_any (text : List UInt8) (w : World) (hl : text.length ≤ 1000000000000) :
    Calls Tryz.prog 8 #[.string ⟨text.toArray⟩] w (RPP text w) := by
  obtain ⟨PR, hPR⟩ : ∃ P, RPP text w = P := ⟨_, rfl⟩
  rw [hPR]
  have HPR := Lib.hid hPR
  clear hPR
  have hb0 : Below w.heap.size w (w.alloc (.cells #[.string ⟨#[]⟩, .string ⟨#[]⟩, .string ⟨#[]⟩, .int .i64 0, .slice none 0 0, .slice none 0 0, .string ⟨#[]⟩, .string ⟨#[]⟩, .bool false, .bool false] 47)) := (Below.refl _ _).alloc (Nat.le_refl _) _
  have hk0 : (w.alloc (.cells #[.string ⟨#[]⟩, .string ⟨#[]⟩, .string ⟨#[]⟩, .int .i64 0, .slice none 0 0, .slice none 0 0, .string ⟨#[]⟩, .string ⟨#[]⟩, .bool false, .bool false] 47)).heap[w.heap.size]? = some (.cells #[.string ⟨#[]⟩, .string ⟨#[]⟩, .string ⟨#[]⟩, .int .i64 0, .slice none 0 0, .slice none 0 0, .string ⟨#[]⟩, .string ⟨#[]⟩, .bool false, .bool false] 47 (0, 0)) := alloc_at _ _ _ rfl
  by_cases h6 : 65536 < text.length
  · have g1 : decide ((65536 : Int) < (text.length : Int)) = true := decide_eq_true (by omega)
    have hfin := hb0.trans (put10_below (w.alloc (.cells #[.string ⟨#[]⟩, .string ⟨#[]⟩, .string ⟨#[]⟩, .int .i64 0, .slice none 0 0, .slice none 0 0, .string ⟨#[]⟩, .string ⟨#[]⟩, .bool false, .bool false] 47)) w.heap.size (.string ⟨#[]⟩) (.string ⟨#[]⟩) (.string ⟨#[]⟩) (.int .i64 0) (.slice none 0 0) (.slice none 0 0) (.string ⟨#[]⟩) (.string ⟨#[]⟩) (.bool false) (.bool false))
    obtain ⟨⟨n0, n1, n2, n3, n4, n5, n6, n7, n8, n9⟩, z0, z1, z2, z3, z4, z5, z6, z7, z8, z9⟩ := ten_cells hk0
    go_enter Tryz.func8, Tryz.ntmps8
    go_wp2_with fail
    refine bodyPost_ret (v := .tuple #[.agg #[.string ⟨#[]⟩, .string ⟨#[]⟩, .string ⟨#[]⟩, .int .i64 0, .slice none 0 0, .slice none 0 0, .string ⟨#[]⟩, .string ⟨#[]⟩, .bool false, .bool false], .int .i64 2]) (by simp [results, Tryz.results8, go_sem, n0, n1, n2, n3, n4, n5, n6, n7, n8, n9]) rfl ?_
    rw [← HPR.out]
    have hp : parseC text = none := by unfold parseC; rw [if_pos h6]
    unfold RPP
    rw [hp, if_pos h6]
    first | exact ⟨hb0, rfl⟩ | exact ⟨hfin, rfl⟩
  · have g1 : decide ((65536 : Int) < (text.length : Int)) = false := decide_eq_false (by omega)
    have hrp := ref_parse text (by omega)
    have hsm := small_rec text (by omega)
    obtain ⟨hs1, hs2⟩ := oneR_sum text
    obtain ⟨L, n, hor⟩ : ∃ L n, oneR text = (L, n) := ⟨_, _, rfl⟩
    rw [hor] at hrp hsm hs1 hs2
    simp only at hrp hsm hs1 hs2
    obtain ⟨hs3, hs4⟩ := lnS_two L hs2
    have hLl : L.length ≤ 1000000 := by omega
    have hLs : ∀ s ∈ L, s.length ≤ 1000000 := fun s hs => by have := hs4 s hs; omega
    obtain ⟨c, hc⟩ : ∃ c, recF L = c := ⟨_, rfl⟩
    rw [hc] at hrp hsm
    obtain ⟨ps, pe, hpc⟩ : ∃ a b, printC c = (a, b) := ⟨_, _, rfl⟩
    have hres : parseC text = if n = (text.length : Int) ∧ pe = 0 ∧ ps = text then some c else none := by
      split
      · rename_i hq
        obtain ⟨q1, q2, q3⟩ := hq
        exact (hrp c).2 ⟨q1, by rw [hpc, q2, q3], rfl⟩
      · rename_i hq
        cases hpq : parseC text with
        | none => rfl
        | some d =>
          obtain ⟨q1, q2, q3⟩ := (hrp d).1 hpq
          rw [hpc] at q2
          simp only [Prod.mk.injEq] at q2
          exact absurd ⟨q1, q2.2, q2.1⟩ hq
    have HRES := Lib.hid hres
    have HLL := Lib.hid (And.intro hLl hLs)
    have HSM := Lib.hid hsm
    have HCC := Lib.hid hc
    have HPC := Lib.hid hpc
    have HOR := Lib.hid hor
    clear hrp hsm hs1 hs2 hs3 hs4 hLl hLs hc hpc hres hor
    go_enter Tryz.func8, Tryz.ntmps8
    go_wp2_with fail
    generalize w.alloc (.cells #[.string ⟨#[]⟩, .string ⟨#[]⟩, .string ⟨#[]⟩, .int .i64 0, .slice none 0 0, .slice none 0 0, .string ⟨#[]⟩, .string ⟨#[]⟩, .bool false, .bool false] 47) = w1 at hb0 hk0 ⊢
    generalize hN : w.heap.size = N at hb0 hk0 ⊢
    have HNN := Lib.hid hN
    clear hN
    have k1 := one_any text w1 (by omega)
    rw [HOR.out] at k1
    simp only at k1
    refine Calls.mono (show Calls _ _ _ _ _ from k1) ?_
    rintro e w2 ⟨⟨v, rfl, hT⟩, hb2⟩
    clear k1
    obtain ⟨av, cv, rfl⟩ := hT.sl
    have k2 := rec_any _ L w2 hT.at HLL.out.1 HLL.out.2
    rw [HCC.out] at k2
    have hN1 := (Array.getElem?_eq_some_iff.1 hk0).1
    have hs2 := hb2.size
    have hk2 := (hb2.block N hN1).trans hk0
    have hbe2 := hb0.trans (hb2.mono (by omega))
    clear hT hb0 hk0 hb2
    go_wp2_with fail
    refine Calls.mono (show Calls _ _ _ _ _ from k2) ?_
    rintro e w3 ⟨⟨vA, vM, rfl, hA, hM⟩, hb3⟩
    clear k2
    obtain ⟨aA, cA, rfl⟩ := hA.sl
    obtain ⟨aM, cM, rfl⟩ := hM.sl
    have hs3 := hb3.size
    have hk3 := (hb3.block N (by omega)).trans hk2
    have hbe3 := hbe2.trans (hb3.mono (by omega))
    have hbC : Below w3.heap.size w3 (w3.alloc (.cells (chgA c (.slice aA c.attrs.length cA) (.slice aM c.mods.length cM)) 47)) := (Below.refl _ _).alloc (Nat.le_refl _) _
    have hG4 : (w3.alloc (.cells (chgA c (.slice aA c.attrs.length cA) (.slice aM c.mods.length cM)) 47)).heap[w3.heap.size]? = some (.cells (chgA c (.slice aA c.attrs.length cA) (.slice aM c.mods.length cM)) 47 (0, 0)) := alloc_at _ _ _ rfl
    have hA4 := hA.below hbC
    have hM4 := hM.below hbC
    have hk4 := (hbC.block N (by omega)).trans hk3
    have hbe4 := hbe3.trans (hbC.mono (by omega))
    have hs4 := hbC.size
    have k4 := RPrint_any c (.slice aA c.attrs.length cA) (.slice aM c.mods.length cM) _ hA4.at hM4.at HSM.out
    rw [HPC.out] at k4
    unfold chgA at k4 hG4 hA4 hM4 hk4 hbe4 hs4 ⊢
    clear hA hM hbC hb3 hk2 hbe2 hk3 hbe3
    go_wp2_with fail
    refine Calls.mono (show Calls _ _ _ _ _ from k4) ?_
    rintro e w5 ⟨rfl, hb5⟩
    clear k4
    have hG5 := (hb5.block w3.heap.size (by simp)).trans hG4
    have hk5 := (hb5.block N (by simp; omega)).trans hk4
    have hA5 := hA4.below hb5
    have hM5 := hM4.below hb5
    have hbe5 := hbe4.trans (hb5.mono (by simp; omega))
    have hNG : N ≠ w3.heap.size := by omega
    have hN2 : N + 1 ≤ w2.heap.size := by omega
    have hN3 : N + 1 ≤ w3.heap.size := by omega
    clear hA4 hM4 hG4 hk4 hbe4 hb5 hs4
    obtain ⟨⟨c0, c1, c2, c3, c4, c5, c6, c7, c8, c9⟩, _⟩ := ten_cells hG5
    obtain ⟨⟨n0, n1, n2, n3, n4, n5, n6, n7, n8, n9⟩, z0, z1, z2, z3, z4, z5, z6, z7, z8, z9⟩ := ten_cells hk5
    have hOK : Below N w (put10 w5 N (.string ⟨c.time.toArray⟩) (.string ⟨c.who.toArray⟩) (.string ⟨c.dn.toArray⟩) (.int .i64 c.kind) (.slice aA c.attrs.length cA) (.slice aM c.mods.length cM) (.string ⟨c.newRdn.toArray⟩) (.string ⟨c.newSup.toArray⟩) (.bool c.delOld) (.bool c.hasSup)) := hbe5.trans (put10_below w5 N (.string ⟨c.time.toArray⟩) (.string ⟨c.who.toArray⟩) (.string ⟨c.dn.toArray⟩) (.int .i64 c.kind) (.slice aA c.attrs.length cA) (.slice aM c.mods.length cM) (.string ⟨c.newRdn.toArray⟩) (.string ⟨c.newSup.toArray⟩) (.bool c.delOld) (.bool c.hasSup))
    have hBD : Below N w (put10 w5 N (.string ⟨#[]⟩) (.string ⟨#[]⟩) (.string ⟨#[]⟩) (.int .i64 0) (.slice none 0 0) (.slice none 0 0) (.string ⟨#[]⟩) (.string ⟨#[]⟩) (.bool false) (.bool false)) := hbe5.trans (put10_below w5 N (.string ⟨#[]⟩) (.string ⟨#[]⟩) (.string ⟨#[]⟩) (.int .i64 0) (.slice none 0 0) (.slice none 0 0) (.string ⟨#[]⟩) (.string ⟨#[]⟩) (.bool false) (.bool false))
    have hgr := put10_grown w5 N (.string ⟨c.time.toArray⟩) (.string ⟨c.who.toArray⟩) (.string ⟨c.dn.toArray⟩) (.int .i64 c.kind) (.slice aA c.attrs.length cA) (.slice aM c.mods.length cM) (.string ⟨c.newRdn.toArray⟩) (.string ⟨c.newSup.toArray⟩) (.bool c.delOld) (.bool c.hasSup)
    have HA := Lib.hid (show AO N (put10 w5 N (.string ⟨c.time.toArray⟩) (.string ⟨c.who.toArray⟩) (.string ⟨c.dn.toArray⟩) (.int .i64 c.kind) (.slice aA c.attrs.length cA) (.slice aM c.mods.length cM) (.string ⟨c.newRdn.toArray⟩) (.string ⟨c.newSup.toArray⟩) (.bool c.delOld) (.bool c.hasSup)) (.slice aA c.attrs.length cA) c.attrs from (hA5.mono (by omega)).g1 hgr)
    have HM := Lib.hid (show MO N (put10 w5 N (.string ⟨c.time.toArray⟩) (.string ⟨c.who.toArray⟩) (.string ⟨c.dn.toArray⟩) (.int .i64 c.kind) (.slice aA c.attrs.length cA) (.slice aM c.mods.length cM) (.string ⟨c.newRdn.toArray⟩) (.string ⟨c.newSup.toArray⟩) (.bool c.delOld) (.bool c.hasSup)) (.slice aM c.mods.length cM) c.mods from (hM5.mono (by omega)).g1 hgr)
    have HB := Lib.hid (And.intro hOK hBD)
    generalize w3.heap.size = G at hG5 hNG c0 c1 c2 c3 c4 c5 c6 c7 c8 c9 ⊢
    clear hgr hOK hBD hbe5 hA5 hM5 hG5 hk5
    by_cases hq : n = (text.length : Int) ∧ pe = 0 ∧ ps = text
    · have hr := HRES.out
      rw [if_pos hq] at hr
      have HR := Lib.hid hr
      obtain ⟨rfl, rfl, rfl⟩ := hq
      clear hr
      have b1 : (((ps.length : Nat) : Int) != (ps.length : Int)) = false := by simp
      have b2 : ((0 : Int) != 0) = false := by decide
      have b3 : (ps != ps) = false := by simp
      go_wp2_with fail
      refine bodyPost_ret (v := .tuple #[.agg #[.string ⟨c.time.toArray⟩, .string ⟨c.who.toArray⟩, .string ⟨c.dn.toArray⟩, .int .i64 c.kind, .slice aA c.attrs.length cA, .slice aM c.mods.length cM, .string ⟨c.newRdn.toArray⟩, .string ⟨c.newSup.toArray⟩, .bool c.delOld, .bool c.hasSup], .int .i64 0]) (by simp [results, Tryz.results8, go_sem, n0, n1, n2, n3, n4, n5, n6, n7, n8, n9]) rfl ?_
      rw [← HPR.out]
      unfold RPP
      rw [HR.out, HNN.out]
      exact ⟨HB.out.1, _, _, rfl, HA.out, HM.out⟩
    · have hr := HRES.out
      rw [if_neg hq] at hr
      have HR := Lib.hid hr
      clear hr
      have hfin : ∀ w', Below N w w' → PR (.returned (.tuple #[.agg #[.string ⟨#[]⟩, .string ⟨#[]⟩, .string ⟨#[]⟩, .int .i64 0, .slice none 0 0, .slice none 0 0, .string ⟨#[]⟩, .string ⟨#[]⟩, .bool false, .bool false], .int .i64 110])) w' := by
        intro w' hb
        rw [← HPR.out]
        unfold RPP
        rw [HR.out, HNN.out, if_neg h6]
        exact ⟨hb, rfl⟩
      have HF := Lib.hid hfin
      clear hfin
      by_cases q1 : n = (text.length : Int)
      · have b1 : (n != (text.length : Int)) = false := by rw [q1]; simp
        by_cases q2 : pe = 0
        · have b2 : (pe != 0) = false := by rw [q2]; decide
          have b3 : (ps == text) = false := by
            have : ps ≠ text := fun e => hq ⟨q1, q2, e⟩
            simpa using this
          subst q2
          clear hq q1
          go_wp2_with fail
          refine bodyPost_ret (v := .tuple #[.agg #[.string ⟨#[]⟩, .string ⟨#[]⟩, .string ⟨#[]⟩, .int .i64 0, .slice none 0 0, .slice none 0 0, .string ⟨#[]⟩, .string ⟨#[]⟩, .bool false, .bool false], .int .i64 110]) (by simp [results, Tryz.results8, go_sem, n0, n1, n2, n3, n4, n5, n6, n7, n8, n9]) rfl ?_
          exact HF.out _ HB.out.2
        · have b2 : (pe != 0) = true := by simpa using q2
          clear hq q1 q2
          go_wp2_with fail
          refine bodyPost_ret (v := .tuple #[.agg #[.string ⟨#[]⟩, .string ⟨#[]⟩, .string ⟨#[]⟩, .int .i64 0, .slice none 0 0, .slice none 0 0, .string ⟨#[]⟩, .string ⟨#[]⟩, .bool false, .bool false], .int .i64 110]) (by simp [results, Tryz.results8, go_sem, n0, n1, n2, n3, n4, n5, n6, n7, n8, n9]) rfl ?_
          exact HF.out _ HB.out.2
      · have b1 : (n != (text.length : Int)) = true := by simpa using q1
        clear hq q1
        go_wp2_with fail
        refine bodyPost_ret (v := .tuple #[.agg #[.string ⟨#[]⟩, .string ⟨#[]⟩, .string ⟨#[]⟩, .int .i64 0, .slice none 0 0, .slice none 0 0, .string ⟨#[]⟩, .string ⟨#[]⟩, .bool false, .bool false], .int .i64 110]) (by simp [results, Tryz.results8, go_sem, n0, n1, n2, n3, n4, n5, n6, n7, n8, n9]) rfl ?_
        exact HF.out _ HB.out.2
def sameC (c d : Chg) : Bool := decide (c.time = d.time ∧ c.who = d.who ∧ c.dn = d.dn ∧ c.kind = d.kind ∧ c.attrs = d.attrs ∧ c.mods = d.mods ∧ c.newRdn = d.newRdn ∧ c.newSup = d.newSup ∧ c.delOld = d.delOld ∧ c.hasSup = d.hasSup)
theorem sameC_iff (c d : Chg) : sameC c d = true ↔ c = d := by
  obtain ⟨a0, a1, a2, a3, a4, a5, a6, a7, a8, a9⟩ := c
  obtain ⟨b0, b1, b2, b3, b4, b5, b6, b7, b8, b9⟩ := d
  simp [sameC]
theorem below_drw {B : Nat} {a w : World} (h : Below B a w) (n : Nat) : Below B a (w.drewN n) := ⟨h.os, h.tape, h.output, h.size, h.block⟩
def LenC (c : Chg) : Prop := c.attrs.length ≤ 140737488355328 ∧ c.mods.length ≤ 140737488355328 ∧ (∀ x ∈ c.attrs, x.2.length ≤ 140737488355328) ∧ (∀ x ∈ c.mods, x.2.2.length ≤ 140737488355328)
theorem Same_any (c d : Chg) (vA vM uA uM : Value) (w : World) (hA : AttrsAt w vA c.attrs) (hM : ModsAt w vM c.mods) (hA2 : AttrsAt w uA d.attrs) (hM2 : ModsAt w uM d.mods) (hl : LenC c) (hl2 : LenC d) :
    Calls Tryz.prog 11 #[.agg (chgA c vA vM), .agg (chgA d uA uM)] w fun e w' => e = .returned (.bool (sameC c d)) ∧ Below w.heap.size w w' := by
  obtain ⟨ANS, hANS⟩ : ∃ b, sameC c d = b := ⟨_, rfl⟩
  rw [hANS]
  unfold sameC at hANS
  have HS := Lib.hid hANS
  clear hANS
  unfold chgA
  have hb1 : Below w.heap.size w (w.alloc (.cells #[.string ⟨c.time.toArray⟩, .string ⟨c.who.toArray⟩, .string ⟨c.dn.toArray⟩, .int .i64 c.kind, vA, vM, .string ⟨c.newRdn.toArray⟩, .string ⟨c.newSup.toArray⟩, .bool c.delOld, .bool c.hasSup] 47)) := (Below.refl _ _).alloc (Nat.le_refl _) _
  obtain ⟨w1, hw1⟩ : ∃ x, w.alloc (.cells #[.string ⟨c.time.toArray⟩, .string ⟨c.who.toArray⟩, .string ⟨c.dn.toArray⟩, .int .i64 c.kind, vA, vM, .string ⟨c.newRdn.toArray⟩, .string ⟨c.newSup.toArray⟩, .bool c.delOld, .bool c.hasSup] 47) = x := ⟨_, rfl⟩
  have hk1 : w1.heap[w.heap.size]? = some (.cells #[.string ⟨c.time.toArray⟩, .string ⟨c.who.toArray⟩, .string ⟨c.dn.toArray⟩, .int .i64 c.kind, vA, vM, .string ⟨c.newRdn.toArray⟩, .string ⟨c.newSup.toArray⟩, .bool c.delOld, .bool c.hasSup] 47 (0, 0)) := by rw [← hw1]; exact alloc_at _ _ _ rfl
  have hs1 : w1.heap.size = w.heap.size + 1 := by rw [← hw1]; simp
  rw [hw1] at hb1
  obtain ⟨w2, hw2⟩ : ∃ x, w1.alloc (.cells #[.string ⟨d.time.toArray⟩, .string ⟨d.who.toArray⟩, .string ⟨d.dn.toArray⟩, .int .i64 d.kind, uA, uM, .string ⟨d.newRdn.toArray⟩, .string ⟨d.newSup.toArray⟩, .bool d.delOld, .bool d.hasSup] 47) = x := ⟨_, rfl⟩
  have hk2 : w2.heap[w1.heap.size]? = some (.cells #[.string ⟨d.time.toArray⟩, .string ⟨d.who.toArray⟩, .string ⟨d.dn.toArray⟩, .int .i64 d.kind, uA, uM, .string ⟨d.newRdn.toArray⟩, .string ⟨d.newSup.toArray⟩, .bool d.delOld, .bool d.hasSup] 47 (0, 0)) := by rw [← hw2]; exact alloc_at _ _ _ rfl
  have hk3 : w2.heap[w.heap.size]? = some (.cells #[.string ⟨c.time.toArray⟩, .string ⟨c.who.toArray⟩, .string ⟨c.dn.toArray⟩, .int .i64 c.kind, vA, vM, .string ⟨c.newRdn.toArray⟩, .string ⟨c.newSup.toArray⟩, .bool c.delOld, .bool c.hasSup] 47 (0, 0)) := by rw [← hw2]; exact (Lib.alloc_old _ _ _ (by omega)).trans hk1
  have hb2 : Below w.heap.size w w2 := by rw [← hw2]; exact hb1.alloc (by omega) _
  rw [hs1] at hk2
  obtain ⟨⟨c0, c1, c2, c3, c4, c5, c6, c7, c8, c9⟩, _⟩ := ten_cells hk3
  obtain ⟨⟨d0, d1, d2, d3, d4, d5, d6, d7, d8, d9⟩, _⟩ := ten_cells hk2
  have ka := SameAttrs_any vA uA c.attrs d.attrs w2 (hA.below hb2) (hA2.below hb2) hl.1 hl2.1 hl.2.2.1 hl2.2.2.1
  have km := fun n => SameMods_any vM uM c.mods d.mods (w2.drewN n) ((hM.below hb2).drewN n) ((hM2.below hb2).drewN n) hl.2.1 hl2.2.1 hl.2.2.2 hl2.2.2.2
  clear hA hM hA2 hM2 hl hl2 hk1 hk2 hk3
  clear hs1 hb1
  subst hw2
  subst hw1
  go_enter Tryz.func11, Tryz.ntmps11
  by_cases e0 : c.time = d.time
  · have g0 : (c.time == d.time) = true := by simpa using e0
    by_cases e1 : c.who = d.who
    · have g1 : (c.who == d.who) = true := by simpa using e1
      by_cases e2 : c.dn = d.dn
      · have g2 : (c.dn == d.dn) = true := by simpa using e2
        by_cases e3 : c.kind = d.kind
        · have g3 : (c.kind == d.kind) = true := by simpa using e3
          by_cases e4 : c.attrs = d.attrs
          · rw [decide_eq_true e4] at ka
            by_cases e5 : c.mods = d.mods
            · rw [decide_eq_true e5] at km
              by_cases e6 : c.newRdn = d.newRdn
              · have g6 : (c.newRdn == d.newRdn) = true := by simpa using e6
                by_cases e7 : c.newSup = d.newSup
                · have g7 : (c.newSup == d.newSup) = true := by simpa using e7
                  by_cases e8 : c.delOld = d.delOld
                  · have g8 : (c.delOld == d.delOld) = true := by simpa using e8
                    by_cases e9 : c.hasSup = d.hasSup
                    · have g9 : (c.hasSup == d.hasSup) = true := by simpa using e9
                      have hT : ANS = true := by rw [← HS.out]; exact decide_eq_true ⟨e0, e1, e2, e3, e4, e5, e6, e7, e8, e9⟩
                      subst hT
                      clear HS e0 e1 e2 e3 e4 e5 e6 e7 e8 e9
                      go_wp2_with (first | (go_at_call 37; refine Calls.mono (show Calls _ _ _ _ _ from ka) ?_; rintro e w3 ⟨rfl, m, rfl⟩) | (go_at_call 38; refine Calls.mono (show Calls _ _ _ _ _ from km _) ?_; rintro e w4 ⟨rfl, m2, rfl⟩))
                      go_ret
                      first | exact ⟨rfl, hb2⟩ | exact ⟨rfl, below_drw hb2 _⟩ | exact ⟨rfl, below_drw (below_drw hb2 _) _⟩
                    · have g9 : (c.hasSup == d.hasSup) = false := by simpa using e9
                      have hF : ANS = false := by rw [← HS.out]; exact decide_eq_false (fun h => e9 h.2.2.2.2.2.2.2.2.2)
                      subst hF
                      clear HS e0 e1 e2 e3 e4 e5 e6 e7 e8 e9
                      go_wp2_with (first | (go_at_call 37; refine Calls.mono (show Calls _ _ _ _ _ from ka) ?_; rintro e w3 ⟨rfl, m, rfl⟩) | (go_at_call 38; refine Calls.mono (show Calls _ _ _ _ _ from km _) ?_; rintro e w4 ⟨rfl, m2, rfl⟩))
                      go_ret
                      first | exact ⟨rfl, hb2⟩ | exact ⟨rfl, below_drw hb2 _⟩ | exact ⟨rfl, below_drw (below_drw hb2 _) _⟩
                  · have g8 : (c.delOld == d.delOld) = false := by simpa using e8
                    have hF : ANS = false := by rw [← HS.out]; exact decide_eq_false (fun h => e8 h.2.2.2.2.2.2.2.2.1)
                    subst hF
                    clear HS e0 e1 e2 e3 e4 e5 e6 e7 e8
                    go_wp2_with (first | (go_at_call 37; refine Calls.mono (show Calls _ _ _ _ _ from ka) ?_; rintro e w3 ⟨rfl, m, rfl⟩) | (go_at_call 38; refine Calls.mono (show Calls _ _ _ _ _ from km _) ?_; rintro e w4 ⟨rfl, m2, rfl⟩))
                    go_ret
                    first | exact ⟨rfl, hb2⟩ | exact ⟨rfl, below_drw hb2 _⟩ | exact ⟨rfl, below_drw (below_drw hb2 _) _⟩
                · have g7 : (c.newSup == d.newSup) = false := by simpa using e7
                  have hF : ANS = false := by rw [← HS.out]; exact decide_eq_false (fun h => e7 h.2.2.2.2.2.2.2.1)
                  subst hF
                  clear HS e0 e1 e2 e3 e4 e5 e6 e7
                  go_wp2_with (first | (go_at_call 37; refine Calls.mono (show Calls _ _ _ _ _ from ka) ?_; rintro e w3 ⟨rfl, m, rfl⟩) | (go_at_call 38; refine Calls.mono (show Calls _ _ _ _ _ from km _) ?_; rintro e w4 ⟨rfl, m2, rfl⟩))
                  go_ret
                  first | exact ⟨rfl, hb2⟩ | exact ⟨rfl, below_drw hb2 _⟩ | exact ⟨rfl, below_drw (below_drw hb2 _) _⟩
              · have g6 : (c.newRdn == d.newRdn) = false := by simpa using e6
                have hF : ANS = false := by rw [← HS.out]; exact decide_eq_false (fun h => e6 h.2.2.2.2.2.2.1)
                subst hF
                clear HS e0 e1 e2 e3 e4 e5 e6
                go_wp2_with (first | (go_at_call 37; refine Calls.mono (show Calls _ _ _ _ _ from ka) ?_; rintro e w3 ⟨rfl, m, rfl⟩) | (go_at_call 38; refine Calls.mono (show Calls _ _ _ _ _ from km _) ?_; rintro e w4 ⟨rfl, m2, rfl⟩))
                go_ret
                first | exact ⟨rfl, hb2⟩ | exact ⟨rfl, below_drw hb2 _⟩ | exact ⟨rfl, below_drw (below_drw hb2 _) _⟩
            · rw [decide_eq_false e5] at km
              have hF : ANS = false := by rw [← HS.out]; exact decide_eq_false (fun h => e5 h.2.2.2.2.2.1)
              subst hF
              clear HS e0 e1 e2 e3 e4 e5
              go_wp2_with (first | (go_at_call 37; refine Calls.mono (show Calls _ _ _ _ _ from ka) ?_; rintro e w3 ⟨rfl, m, rfl⟩) | (go_at_call 38; refine Calls.mono (show Calls _ _ _ _ _ from km _) ?_; rintro e w4 ⟨rfl, m2, rfl⟩))
              go_ret
              first | exact ⟨rfl, hb2⟩ | exact ⟨rfl, below_drw hb2 _⟩ | exact ⟨rfl, below_drw (below_drw hb2 _) _⟩
          · rw [decide_eq_false e4] at ka
            have hF : ANS = false := by rw [← HS.out]; exact decide_eq_false (fun h => e4 h.2.2.2.2.1)
            subst hF
            clear HS e0 e1 e2 e3 e4
            go_wp2_with (first | (go_at_call 37; refine Calls.mono (show Calls _ _ _ _ _ from ka) ?_; rintro e w3 ⟨rfl, m, rfl⟩) | (go_at_call 38; refine Calls.mono (show Calls _ _ _ _ _ from km _) ?_; rintro e w4 ⟨rfl, m2, rfl⟩))
            go_ret
            first | exact ⟨rfl, hb2⟩ | exact ⟨rfl, below_drw hb2 _⟩ | exact ⟨rfl, below_drw (below_drw hb2 _) _⟩
        · have g3 : (c.kind == d.kind) = false := by simpa using e3
          have hF : ANS = false := by rw [← HS.out]; exact decide_eq_false (fun h => e3 h.2.2.2.1)
          subst hF
          clear HS e0 e1 e2 e3
          go_wp2_with (first | (go_at_call 37; refine Calls.mono (show Calls _ _ _ _ _ from ka) ?_; rintro e w3 ⟨rfl, m, rfl⟩) | (go_at_call 38; refine Calls.mono (show Calls _ _ _ _ _ from km _) ?_; rintro e w4 ⟨rfl, m2, rfl⟩))
          go_ret
          first | exact ⟨rfl, hb2⟩ | exact ⟨rfl, below_drw hb2 _⟩ | exact ⟨rfl, below_drw (below_drw hb2 _) _⟩
      · have g2 : (c.dn == d.dn) = false := by simpa using e2
        have hF : ANS = false := by rw [← HS.out]; exact decide_eq_false (fun h => e2 h.2.2.1)
        subst hF
        clear HS e0 e1 e2
        go_wp2_with (first | (go_at_call 37; refine Calls.mono (show Calls _ _ _ _ _ from ka) ?_; rintro e w3 ⟨rfl, m, rfl⟩) | (go_at_call 38; refine Calls.mono (show Calls _ _ _ _ _ from km _) ?_; rintro e w4 ⟨rfl, m2, rfl⟩))
        go_ret
        first | exact ⟨rfl, hb2⟩ | exact ⟨rfl, below_drw hb2 _⟩ | exact ⟨rfl, below_drw (below_drw hb2 _) _⟩
    · have g1 : (c.who == d.who) = false := by simpa using e1
      have hF : ANS = false := by rw [← HS.out]; exact decide_eq_false (fun h => e1 h.2.1)
      subst hF
      clear HS e0 e1
      go_wp2_with (first | (go_at_call 37; refine Calls.mono (show Calls _ _ _ _ _ from ka) ?_; rintro e w3 ⟨rfl, m, rfl⟩) | (go_at_call 38; refine Calls.mono (show Calls _ _ _ _ _ from km _) ?_; rintro e w4 ⟨rfl, m2, rfl⟩))
      go_ret
      first | exact ⟨rfl, hb2⟩ | exact ⟨rfl, below_drw hb2 _⟩ | exact ⟨rfl, below_drw (below_drw hb2 _) _⟩
  · have g0 : (c.time == d.time) = false := by simpa using e0
    have hF : ANS = false := by rw [← HS.out]; exact decide_eq_false (fun h => e0 h.1)
    subst hF
    clear HS e0
    go_wp2_with (first | (go_at_call 37; refine Calls.mono (show Calls _ _ _ _ _ from ka) ?_; rintro e w3 ⟨rfl, m, rfl⟩) | (go_at_call 38; refine Calls.mono (show Calls _ _ _ _ _ from km _) ?_; rintro e w4 ⟨rfl, m2, rfl⟩))
    go_ret
    first | exact ⟨rfl, hb2⟩ | exact ⟨rfl, below_drw hb2 _⟩ | exact ⟨rfl, below_drw (below_drw hb2 _) _⟩
theorem rest_le (c : Chg) : (restC c).length ≤ (textC c).length := by
  unfold textC
  simp only [List.length_append]
  omega
theorem attrsOk_ne : ∀ (al : List At) (p : Option (List UInt8)), attrsOk p al = true → ∀ a ∈ al, a.2 ≠ []
  | [], _, _ => fun a ha => by cases ha
  | a :: al, p, h => by
    simp only [attrsOk, Bool.and_eq_true, Bool.not_eq_true', List.isEmpty_eq_false_iff] at h
    intro x hx
    rcases List.mem_cons.1 hx with rfl | hx
    · exact h.1.1.2
    · exact attrsOk_ne al _ h.2 x hx
theorem parse_oks {u : List UInt8} {x : Chg} (k : parseC u = some x) : OkA x.attrs ∧ OkM x.mods ∧ LenC x := by
  obtain ⟨hr, ht, hl⟩ := printC_text (parse_prints k)
  simp only [rightC, Bool.and_eq_true] at hr
  obtain ⟨⟨ho, ha⟩, hm⟩ := hr
  simp only [onlyC, Bool.and_eq_true, Bool.or_eq_true, Bool.not_eq_true', decide_eq_true_eq, List.isEmpty_iff] at ho
  obtain ⟨⟨⟨⟨⟨h0, h3⟩, hA⟩, hM⟩, hS⟩, hR⟩ := ho
  have hrl := rest_le x
  rw [← ht] at hrl
  have q1 : (attrB x.attrs).length ≤ 65536 := by
    rcases hA with hA | hA
    · have : restC x = attrB x.attrs := by unfold restC; rw [if_pos hA]
      rw [this] at hrl; omega
    · rw [hA]; exact Nat.zero_le _
  have q2 : (modB x.mods).length ≤ 65536 := by
    rcases hM with hM | hM
    · have : restC x = modB x.mods := by unfold restC; rw [if_neg (by omega), if_pos hM]
      rw [this] at hrl; omega
    · rw [hM]; exact Nat.zero_le _
  obtain ⟨a1, a2⟩ := attrB_ge x.attrs (attrsOk_ne _ _ ha)
  obtain ⟨m1, m2⟩ := modB_ge x.mods
  exact ⟨⟨by omega, fun y hy => by have := (a2 y hy).2.1; omega⟩, ⟨by omega, fun y hy => by have := (m2 y hy).2.1; omega⟩,
    by omega, by omega, fun y hy => by have := (a2 y hy).2.1; omega, fun y hy => by have := (m2 y hy).2.1; omega⟩
theorem allF_of : ∀ (n : Nat) (s : List UInt8) (l : List Chg), allF n s = some l → l.length ≤ s.length ∧ ∀ c ∈ l, ∃ u, parseC u = some c
  | 0, s, l, h => by
    unfold allF at h
    split at h
    · cases h; exact ⟨by simp, fun c hc => (by cases hc)⟩
    · cases h
  | n + 1, s, l, h => by
    unfold allF at h
    split at h
    · cases h; exact ⟨by simp, fun c hc => (by cases hc)⟩
    · rename_i hne
      have h0 := List.length_pos_iff.2 hne
      split at h
      · cases h
      · split at h
        · cases h
        · rename_i c hp
          obtain ⟨l', h1, rfl⟩ := Option.map_eq_some_iff.1 h
          obtain ⟨h2, h3⟩ := allF_of n _ l' h1
          rw [List.length_drop] at h2
          refine ⟨by simp only [List.length_cons]; omega, fun d hd => ?_⟩
          rcases List.mem_cons.1 hd with rfl | hd
          · exact ⟨_, hp⟩
          · exact h3 d hd
def pC (s : List UInt8) : Chg × Int := match parseC s with
  | some c => (c, 0)
  | none => (zeroC, if 65536 < s.length then 2 else 110)
def aC (s : List UInt8) : List Chg × Int := match allC s with
  | some cs => (cs, 0)
  | none => ([], if 65536 < s.length then 2 else 110)
theorem pC_ok (s : List UInt8) : OkC [(pC s).1] ∧ LenC (pC s).1 := by
  unfold pC
  cases h : parseC s with
  | none => exact ⟨⟨by simp, fun c hc => by simp at hc; subst hc; exact ⟨⟨by simp [zeroC], fun x hx => (by cases hx)⟩, ⟨by simp [zeroC], fun x hx => (by cases hx)⟩⟩⟩, by simp [zeroC], by simp [zeroC], fun x hx => (by cases hx), fun x hx => (by cases hx)⟩
  | some c =>
    obtain ⟨h1, h2, h3⟩ := parse_oks h
    exact ⟨⟨by simp, fun d hd => by simp at hd; subst hd; exact ⟨h1, h2⟩⟩, h3⟩
theorem aC_ok (s : List UInt8) : OkC (aC s).1 ∧ ∀ c ∈ (aC s).1, LenC c := by
  unfold aC
  cases h : allC s with
  | none => exact ⟨⟨by simp, fun c hc => (by cases hc)⟩, fun c hc => (by cases hc)⟩
  | some l =>
    unfold allC at h
    split at h
    · cases h
    · obtain ⟨h1, h2⟩ := allF_of _ _ _ h
      refine ⟨⟨by show l.length ≤ _; omega, fun c hc => ?_⟩, fun c hc => ?_⟩
      · obtain ⟨u, hu⟩ := h2 c hc
        obtain ⟨q1, q2, q3⟩ := parse_oks hu
        exact ⟨q1, q2⟩
      · obtain ⟨u, hu⟩ := h2 c hc
        exact (parse_oks hu).2.2
end Go.Proofs.YtegigcneimjimaaGreatDoor
