/- The document's own answers of chapter 3 on texts: text, Prepare; the law PrepTexts. -/
import Derived.Test.YtlbfmapbpbpipaaDoorRefThreeC
import Derived.Test.YtlbfmapbpbpipaaDoorLawFolds
namespace Go.Proofs.YtlbfmapbpbpipaaDoor
open Go.RowKit Go.Lib

def putAll (ks : List Int) : List UInt8 := ks.flatMap putR
theorem putAll_enc (ks : List Int) (h : AllValid ks) : putAll ks = encAll ks := by
  unfold putAll encAll
  induction ks with
  | nil => rfl
  | cons k ks ih =>
    rw [List.flatMap_cons, List.flatMap_cons, ih (fun x hx => h x (by simp [hx])), putR, if_pos (h k (by simp))]
theorem putAll_length (ks : List Int) : (putAll ks).length ≤ 4 * ks.length := by
  unfold putAll
  induction ks with
  | nil => simp
  | cons k ks ih => rw [List.flatMap_cons, List.length_append, List.length_cons]; have := putR_length k; omega

def TRel (ks : List Int) (w : World) (v i : Value) (wr : World) : Prop :=
  ∃ k : Nat, i = .int .i64 k ∧ k ≤ ks.length ∧ wr.ownsRow w.heap.size 5 1 v (putAll (ks.take k)).length (bV (putAll (ks.take k))) ∧ Below w.heap.size w wr

set_option maxRecDepth 100000 in
set_option maxHeartbeats 2000000 in
theorem RefTxt_any (ks : List Int) (v : Value) (w : World) (hv : IntsAt .i32 w v ks) (hl : ks.length ≤ 1099511627776) (hb : ∀ x ∈ ks, -2147483648 ≤ x ∧ x ≤ 2147483647) :
    Calls Tryd.prog 28 #[v] w fun e w' => e = .returned (.string ⟨(putAll ks).toArray⟩) ∧ Below w.heap.size w w' := by
  have HV := Lib.hid hv
  have HB := Lib.hid hb
  clear hb
  obtain ⟨A, cap, rfl, hcap, hA⟩ := hv
  clear hA
  go_enter Tryd.func28, Tryd.ntmps28
  go_wp2_with fail
  go_loopw [3, 4] (fun v i wr => TRel ks w v i wr) (fun _ i _ => ks.length - (RowKit.intOf i).toNat)
  case atStart =>
    refine ⟨0, rfl, by omega, ?_, (Below.refl _ _).alloc (Nat.le_refl _) _⟩
    exact ⟨rfl, .inr ⟨w.heap.size, 0, #[], rfl, Nat.le_refl _, heap_alloc_new w _, Nat.le_refl _, by unfold maxLen; omega, rfl, rfl⟩⟩
  case round =>
    obtain ⟨k, rfl, hk, hown, hbe⟩ := hrel
    by_cases hlt : k < ks.length
    · obtain ⟨A', c', hveq, _, hA⟩ := HV.out.below hbe
      obtain ⟨g, of, rfl, hc⟩ := hA (by omega)
      obtain ⟨rfl, rfl⟩ : A = some ⟨g, of, none⟩ ∧ cap = c' := by
        injection hveq with e1 e2 e3
        exact ⟨e1, e3⟩
      have c0 := hc k (ks[k]'hlt) (List.getElem?_eq_getElem hlt)
      have hbx := HB.out (ks[k]'hlt) (List.getElem_mem hlt)
      have c1 := fun w => RefPutRune_any (ks[k]'hlt) w hbx.1 hbx.2
      have htk : putAll (ks.take (k + 1)) = putAll (ks.take k) ++ putR (ks[k]'hlt) := by
        rw [List.take_succ_eq_append_getElem hlt]
        unfold putAll
        rw [List.flatMap_append, List.flatMap_singleton]
      have hpl := putR_length (ks[k]'hlt)
      have hbl := putAll_length (ks.take k)
      rw [List.length_take] at hbl
      obtain ⟨x, hx⟩ : ∃ x, ks[k]'hlt = x := ⟨_, rfl⟩
      rw [hx] at c0 htk hpl
      simp only [hx] at c1
      obtain ⟨en, hen⟩ : ∃ en : Int, (if Lib.validRune x then 0 else 10) = en := ⟨_, rfl⟩
      simp only [hen] at c1
      obtain ⟨px, hpx⟩ : ∃ px, putR x = px := ⟨_, rfl⟩
      rw [hpx] at htk hpl
      simp only [hpx] at c1
      obtain ⟨b, hbb⟩ : ∃ b, putAll (ks.take k) = b := ⟨_, rfl⟩
      rw [hbb] at hown htk hbl
      have C1 := Lib.hid c1
      have HT := Lib.hid htk
      clear hx hen hpx hbb c1 htk hc hA hveq hbx
      have hsz0 := hbe.size
      have hsz : (⟨px.toArray⟩ : ByteArray).size ≤ 4 := by rw [Lib.size_mk]; exact hpl
      have h63 : b.length + (⟨px.toArray⟩ : ByteArray).size ≤ maxLen := by unfold maxLen; omega
      have hby : b.length + (⟨px.toArray⟩ : ByteArray).size ≤ 140737488355328 := by omega
      obtain ⟨i0, hi, hz0, hz1, hz2⟩ := info_parts Tryd.info5
      have fin : ∀ (w2 : World) (v' : Value) (w3 : World), Below wr.heap.size wr w2 → w3.ownsRow w.heap.size 5 1 v' (b.length + (⟨px.toArray⟩ : ByteArray).size) (bV b ++ strCells ⟨px.toArray⟩) → w2.grownBy w3 u3.ownBlock → TRel ks w v' (.int .i64 ((k : Int) + 1)) w3 := by
        intro w2 v' w3 hb2 ho hg
        refine ⟨k + 1, by rw [Int.natCast_add]; rfl, by omega, ?_, ?_⟩
        · rw [HT.out, bV_append, List.length_append]
          rw [Lib.size_mk, strCells_bV] at ho
          exact ho
        · have hbw : Below w.heap.size w w2 := below_ext hbe hb2
          exact hbw.grown hg hbw.size (fun b hb => (hown.lt b hb).1)
      have FIN := Lib.hid fin
      clear fin
      go_wp2_with fail
      refine (C1.out _).mono ?_
      rintro e w2 ⟨rfl, hb2⟩
      have hown2 := own_below hown hb2
      have hsz2 : w.heap.size ≤ w2.heap.size := Nat.le_trans hsz0 hb2.size
      go_wp2_with (at_builtin; refine wpList_append_own_string w2 rfl (.tmp 22) (.tmp 23) 50 9 rfl w.heap.size 5 i0 Tryd.underlying50 Tryd.underlying9 hi hz0 hz1 hz2 _ b.length (bV b) rfl hown2 ⟨px.toArray⟩ rfl h63 hby hsz2 ?_; intro v' w3 ho3 hg3 _)
      go_roundw
      case rel => exact FIN.out w2 _ w3 hb2 ho3 hg3
      case measure => simp [RowKit.intOf]; omega
    · have htk : ks.take k = ks := List.take_of_length_le (by omega)
      rw [htk] at hown
      have hcv := run_str_own (P := Tryd.prog) wr 50 9 5 w.heap.size u3 (putAll ks) Tryd.underlying50 Tryd.underlying5 Tryd.underlying9 hown
      clear htk
      go_wp2_with fail
      go_ret
      exact ⟨rfl, hbe⟩

def refPrep (l : List UInt8) (fold : Bool) : Option (List UInt8) :=
  match mappedK l fold with
  | none => none
  | some ks => if rightK (leftK (single false ks)) = [] ∧ l ≠ [] then some [32] else some (putAll (rightK (leftK (single false ks))))

theorem kept_length (fold : Bool) : ∀ (rs : List Nat) (ks : List Int), kept fold rs = some ks → ks.length ≤ rs.length
  | [], ks, h => by simp only [kept, Option.some.injEq] at h; subst h; simp
  | r :: rs, ks, h => by
    rw [kept] at h
    split at h
    · cases h
    · cases hk : kept fold rs with
      | none => rw [hk] at h; cases h
      | some ks' =>
        rw [hk] at h
        simp only [Option.map_some, Option.some.injEq] at h
        have ih := kept_length fold rs ks' hk
        subst h
        split <;> simp <;> omega
theorem single_length : ∀ (ks : List Int) (p : Bool), (single p ks).length ≤ ks.length
  | [], _ => by simp [single]
  | k :: ks, p => by
    rw [single]
    split
    · have := single_length ks true; simp; omega
    · have := single_length ks (decide (k = 32)); simp; omega
theorem mappedK_facts (l : List UInt8) (fold : Bool) (ks : List Int) (h : mappedK l fold = some ks) : ks.length ≤ l.length ∧ AllClean ks := by
  unfold mappedK at h
  split at h
  · refine ⟨?_, kept_clean fold _ ks h⟩
    have h1 := kept_length fold _ ks h
    have h2 := runesD_length l.length l
    unfold runes at h1
    omega
  · cases h
theorem leftK_mem {ks : List Int} {k : Int} (h : k ∈ leftK ks) : k ∈ ks := by
  unfold leftK at h
  split at h
  · exact List.mem_of_mem_tail h
  · exact h
theorem rightK_mem {ks : List Int} {k : Int} (h : k ∈ rightK ks) : k ∈ ks := by
  unfold rightK at h
  split at h
  · exact List.mem_of_mem_take h
  · exact h
theorem leftK_length (ks : List Int) : (leftK ks).length ≤ ks.length := by unfold leftK; split <;> simp
theorem rightK_length (ks : List Int) : (rightK ks).length ≤ ks.length := by unfold rightK; split <;> simp

set_option maxRecDepth 100000 in
set_option maxHeartbeats 2000000 in
theorem RefPrepare_any (l : List UInt8) (fold : Bool) (w : World) (hl : l.length ≤ 1099511627776) :
    Calls Tryd.prog 15 #[.string ⟨l.toArray⟩, .bool fold] w fun e w' => e = .returned (strOk (refPrep l fold)) ∧ Below w.heap.size w w' := by
  have c1 := RefMapped_any l fold w hl
  have hf := mappedK_facts l fold
  unfold refPrep
  obtain ⟨M, hM⟩ : ∃ M, mappedK l fold = M := ⟨_, rfl⟩
  rw [hM] at c1 hf ⊢
  clear hM
  cases M with
  | none =>
    clear hf
    go_enter Tryd.func15, Tryd.ntmps15
    go_wp2_with fail
    refine c1.mono ?_
    rintro e w1 ⟨hb1, rfl⟩
    go_wp2_with fail
    go_ret2
    exact ⟨rfl, hb1⟩
  | some ks =>
    obtain ⟨hkl, hkc⟩ := hf ks rfl
    clear hf
    have l1 := single_length ks false
    have l2 := leftK_length (single false ks)
    have l3 := rightK_length (leftK (single false ks))
    have hbd : ∀ x ∈ rightK (leftK (single false ks)), -2147483648 ≤ x ∧ x ≤ 2147483647 := fun x hx => by
      have := clean_bounds (hkc x (single_mem ks false x (leftK_mem (rightK_mem hx))))
      omega
    have c2 := fun v w hv => RefSingle_any ks v w hv (by omega)
    have c3 := fun v w hv => RefLeft_any (single false ks) v w hv (by omega)
    have c4 := fun v w hv => RefRight_any (leftK (single false ks)) v w hv (by omega)
    have c5 := fun v w hv => RefTxt_any (rightK (leftK (single false ks))) v w hv (by omega) hbd
    obtain ⟨t, ht⟩ : ∃ t, rightK (leftK (single false ks)) = t := ⟨_, rfl⟩
    simp only [ht] at c4 c5 l3 ⊢
    obtain ⟨R, hR⟩ : ∃ R, strOk (if t = [] ∧ l ≠ [] then some [32] else some (putAll t)) = R := ⟨_, rfl⟩
    rw [hR]
    have HR := Lib.hid hR
    have C2 := Lib.hid c2
    have C3 := Lib.hid c3
    have C4 := Lib.hid c4
    have C5 := Lib.hid c5
    clear hR ht hbd hkc c2 c3 c4 c5
    go_enter Tryd.func15, Tryd.ntmps15
    go_wp2_with fail
    refine c1.mono ?_
    rintro e w1 ⟨hb1, v1, rfl, hv1⟩
    go_wp2_with fail
    refine (C2.out v1 w1 hv1).mono ?_
    rintro e w2 ⟨hb2, v2, rfl, hv2⟩
    go_wp2_with fail
    refine (C3.out v2 w2 hv2).mono ?_
    rintro e w3 ⟨rfl, v3, rfl, hv3⟩
    go_wp2_with fail
    refine (C4.out v3 _ hv3).mono ?_
    rintro e w3 ⟨rfl, v4, rfl, hv4⟩
    have hb := below_ext hb1 hb2
    have HV4 := Lib.hid hv4
    obtain ⟨A4, cap4, hv4e, hcap4, _⟩ := hv4
    subst hv4e
    by_cases ht0 : t = []
    · subst ht0
      by_cases hl0 : l = []
      · subst hl0
        go_wp2_with fail
        refine (C5.out _ _ HV4.out).mono ?_
        rintro e w5 ⟨rfl, hb5⟩
        go_wp2_with fail
        go_ret2
        refine ⟨?_, below_ext hb hb5⟩
        rw [← HR.out]
        rfl
      · have hl1 : 0 < l.length := by cases l <;> simp_all
        go_wp2_with fail
        go_ret2
        refine ⟨?_, hb⟩
        rw [← HR.out, if_pos (by simp [hl0])]
        rfl
    · have ht1 : 0 < t.length := by cases t <;> simp_all
      have ht2 : ((t.length : Int) == 0) = false := beq_eq_false_iff_ne.2 (by omega)
      go_wp2_with fail
      refine (C5.out _ _ HV4.out).mono ?_
      rintro e w5 ⟨rfl, hb5⟩
      go_wp2_with fail
      go_ret2
      refine ⟨?_, below_ext hb hb5⟩
      rw [← HR.out, if_neg (fun h => ht0 h.1)]
      rfl

theorem trimKL_nd (x : List Int) (h : ND x) : trimKL x = leftK x := by
  unfold trimKL leftK
  cases x with
  | nil => rfl
  | cons a x =>
    by_cases ha : a = 32
    · subst ha
      rw [if_pos (show (32 :: x).head? = some 32 from rfl), List.dropWhile_cons_of_pos (by simp), List.tail_cons]
      apply dropW_same
      intro hh
      cases x with
      | nil => simp at hh
      | cons b x =>
        simp only [List.head?_cons, Option.some.injEq] at hh
        subst hh
        exact h [] x rfl
    · rw [if_neg (by simpa using ha), List.dropWhile_cons_of_neg (by simpa using ha)]
theorem trimKR_nd (x : List Int) (h : ND x) : trimKR x = rightK x := by
  rcases List.eq_nil_or_concat x with rfl | ⟨y, a, rfl⟩
  · rfl
  · rw [List.concat_eq_append] at h ⊢
    unfold trimKR rightK
    rw [List.getLast?_concat, List.reverse_append]
    by_cases ha : a = 32
    · subst ha
      rw [if_pos rfl]
      simp only [List.reverse_cons, List.reverse_nil, List.nil_append, List.singleton_append, List.length_append, List.length_cons, List.length_nil]
      rw [List.dropWhile_cons_of_pos (by simp), dropW_same]
      · simp
      · rw [List.head?_reverse]
        intro hh
        rcases List.eq_nil_or_concat y with rfl | ⟨z, b, rfl⟩
        · simp at hh
        · rw [List.concat_eq_append, List.getLast?_concat] at hh
          simp only [Option.some.injEq] at hh
          subst hh
          exact h z [] (by simp)
    · rw [if_neg (by simpa using ha)]
      simp only [List.reverse_cons, List.reverse_nil, List.nil_append, List.singleton_append]
      rw [List.dropWhile_cons_of_neg (by simpa using ha)]
      simp
theorem trim_ref (x : List Int) (h : ND x) : trimK x = rightK (leftK x) := by
  unfold trimK
  rw [trimKR_nd x h]
  have hr : ND (rightK x) := by
    unfold rightK
    split
    · exact ND.mid (u := []) (w := x.drop (x.length - 1)) (by rw [List.nil_append, List.take_append_drop]; exact h)
    · exact h
  rw [trimKL_nd _ hr]
  cases x with
  | nil => rfl
  | cons a x =>
    rcases List.eq_nil_or_concat x with rfl | ⟨y, b, rfl⟩
    · by_cases ha : a = 32
      · subst ha; decide
      · simp [leftK, rightK, ha]
    · rw [List.concat_eq_append]
      have hgl : (a :: (y ++ [b])).getLast? = some b := by rw [← List.cons_append, List.getLast?_concat]
      have hgl2 : (y ++ [b]).getLast? = some b := List.getLast?_concat
      by_cases ha : a = 32 <;> by_cases hb : b = 32
      · subst ha; subst hb; simp [leftK, rightK, hgl]
      · subst ha; simp [leftK, rightK, hb, hgl]
      · subst hb; simp [leftK, rightK, ha, hgl]
      · simp [leftK, rightK, ha, hb, hgl]

theorem ref_prep (l : List UInt8) (fold : Bool) : refPrep l fold = prepL l fold := by
  rw [prepL_spec]
  unfold refPrep mappedK
  cases validD l
  · rfl
  · simp only [if_true]
    cases hk : kept fold (runes l) with
    | none => rfl
    | some ks =>
      simp only [Option.map_some]
      have hc := kept_clean fold _ ks hk
      rw [← trim_ref _ (single_nd ks false).2]
      have hv : AllValid (trimK (single false ks)) := fun k hm => clean_valid (hc k (single_mem ks false k (trimK_mem hm)))
      rw [putAll_enc _ hv]
      unfold finL
      split <;> rfl
end Go.Proofs.YtlbfmapbpbpipaaDoor
