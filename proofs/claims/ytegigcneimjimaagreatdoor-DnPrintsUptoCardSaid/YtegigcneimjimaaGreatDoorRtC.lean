/- chanceryref4.value, Part, Print: what they return. -/
import Derived.Test.YtegigcneimjimaaGreatDoorRtB
import Derived.Test.YtegigcneimjimaaGreatDoorRf4B
namespace Go.Proofs.YtegigcneimjimaaGreatDoor
open Go.RowKit Go.Lib

set_option maxRecDepth 100000 in
set_option maxHeartbeats 2000000 in
theorem rvalue_any (s : List UInt8) (w : World) (hs : s.length ≤ 1099511627776) :
    Calls Tryz.prog 216 #[.string ⟨s.toArray⟩] w fun e w' => e = .returned (.string ⟨(writtenB s).toArray⟩) ∧ Below w.heap.size w w' := by
  by_cases hv : validD s = true
  · have k := rvalue_valid s w hs hv
    unfold writtenB
    rw [if_pos hv]
    exact k
  · have k1 := RefText_any s w hs
    rw [show validD s = false by simpa using hv] at k1
    obtain ⟨ANS, hA⟩ : ∃ ANS, hexL s = ANS := ⟨_, rfl⟩
    have e : writtenB s = 35 :: ANS := by unfold writtenB; rw [if_neg hv, hA]
    have hl := hexL_length s
    rw [hA] at hl
    have hcat : (⟨#[35]⟩ ++ ⟨ANS.toArray⟩ : ByteArray) = ⟨(35 :: ANS).toArray⟩ := by
      apply ByteArray.ext
      simp [ByteArray.data_append]
    rw [e]
    have kh := RHex_any s w hs
    rw [hA] at kh
    have hl2 : ANS.length ≤ 2199023255552 := by omega
    obtain ⟨R, hR⟩ : ∃ R, 35 :: ANS = R := ⟨_, rfl⟩
    rw [hR] at hcat ⊢
    clear hA e hv hR hl
    go_enter Tryz.func216, Tryz.ntmps216
    go_wp2_with (first | (go_at_call 257; refine Calls.mono (show Calls _ _ _ _ _ from k1) ?_; rintro e w1 ⟨rfl, rfl⟩) | (go_at_call 258; refine Calls.mono (show Calls _ _ _ _ _ from kh) ?_; rintro e w2 ⟨rfl, hb2⟩))
    go_ret
    exact ⟨rfl, hb2⟩
theorem joinB_snoc (c : UInt8) (x : List UInt8) : ∀ l : List (List UInt8), l ≠ [] → joinB c (l ++ [x]) = joinB c l ++ [c] ++ x
  | [], h => absurd rfl h
  | [a], _ => by simp [joinB]
  | a :: b :: t, _ => by
    have ih := joinB_snoc c x (b :: t) (by simp)
    simp only [List.cons_append, joinB] at ih ⊢
    rw [ih]
    simp
theorem joinB_take (c : UInt8) (L : List (List UInt8)) (k : Nat) (x : List UInt8) (hx : L[k]? = some x) : joinB c (L.take (k + 1)) = if k = 0 then x else joinB c (L.take k) ++ [c] ++ x := by
  have hl := (List.getElem?_eq_some_iff.1 hx).1
  rw [List.take_add_one, hx]
  by_cases hk : k = 0
  · subst hk; simp [joinB]
  · rw [if_neg hk]
    exact joinB_snoc c x (L.take k) (by intro e; have := congrArg List.length e; rw [List.length_take, List.length_nil] at this; omega)
theorem avB_len64 (a : Av) (h1 : a.1.length ≤ 64) (h2 : a.2.length ≤ 1024) : (avB a).length ≤ 4000 := by
  unfold avB
  have := writtenB_length a.2
  simp
  omega
theorem joinB_len4 (c : UInt8) (L : List (List UInt8)) (h : ∀ l ∈ L, l.length ≤ 4000) (hl : L.length ≤ 4) : (joinB c L).length ≤ 20000 := by
  have h1 := joinB_length c 4000 L h
  have h2 : L.length * (4000 + 1) ≤ 4 * (4000 + 1) := Nat.mul_le_mul_right _ hl
  omega
def PaRel (w : World) (r : List Av) (s i : Value) (wr : World) : Prop :=
  ∃ (k : Nat) (S : List UInt8), i = .int .i64 (k : Int) ∧ k ≤ r.length ∧ s = .string ⟨S.toArray⟩ ∧ joinB 43 ((r.map avB).take k) = S ∧ S.length ≤ 20000 ∧ Below w.heap.size w wr
set_option maxRecDepth 100000 in
set_option maxHeartbeats 4000000 in
theorem rPart_any (v : Value) (r : List Av) (w : World) (h : AvsAt w v r) (hl : r.length ≤ 4) (hb : ∀ a ∈ r, a.1.length ≤ 64 ∧ a.2.length ≤ 1024) :
    Calls Tryz.prog 129 #[v] w fun e w' => e = .returned (.string ⟨(partB r).toArray⟩) ∧ Below w.heap.size w w' := by
  have HH := Lib.hid h
  have HB := Lib.hid hb
  obtain ⟨a1, c1, rfl, hc1, hx1⟩ := h
  clear hx1 hb
  obtain ⟨ANS, hA⟩ : ∃ ANS, partB r = ANS := ⟨_, rfl⟩
  rw [hA]
  have HANS := Lib.hid hA
  clear hA
  go_enter Tryz.func129, Tryz.ntmps129
  go_wp2_with fail
  go_loopw [3, 4] (fun s i wr => PaRel w r s i wr) (fun _ i _ => r.length - (RowKit.intOf i).toNat)
  case atStart => exact ⟨0, [], rfl, by omega, rfl, rfl, by simp, Below.refl _ _⟩
  case round =>
    obtain ⟨k, S, rfl, hk, rfl, hS, hSl, hbe⟩ := hrel
    by_cases hkl : k < r.length
    · obtain ⟨x, hx⟩ : ∃ x, r[k]? = some x := ⟨r[k], List.getElem?_eq_getElem hkl⟩
      obtain ⟨hx1, hx2⟩ := HB.out x (List.mem_of_getElem? hx)
      have hr0 : r ≠ [] := by intro e; rw [e] at hkl; simp at hkl
      obtain ⟨a2, c2, e2, _, hcell⟩ := HH.out.below hbe
      obtain ⟨g, o, ha, hcc⟩ := hcell hr0
      cases e2
      subst ha
      obtain ⟨p1, p2⟩ := hcc k x hx
      rw [Nat.mul_comm] at p1 p2
      have hj := joinB_take 43 (r.map avB) k (avB x) (by rw [List.getElem?_map, hx]; rfl)
      rw [hS] at hj
      have hlen : (joinB 43 ((r.map avB).take (k + 1))).length ≤ 20000 := joinB_len4 43 _ (fun l hl => by
        obtain ⟨a, ha, rfl⟩ := List.mem_map.1 (List.mem_of_mem_take hl)
        exact avB_len64 a (HB.out a ha).1 (HB.out a ha).2) (by rw [List.length_take, List.length_map]; omega)
      obtain ⟨V, hV⟩ : ∃ V, writtenB x.2 = V := ⟨_, rfl⟩
      have hVl : V.length ≤ 3073 := by rw [← hV]; have := writtenB_length x.2; omega
      have hav : avB x = x.1 ++ [61] ++ V := by unfold avB; rw [hV]
      rw [hav] at hj
      have HJ := Lib.hid hj
      have HLN := Lib.hid hlen
      have g3 : (k : Int) < (r.length : Int) := by omega
      have g4 : decide ((k : Int) < (r.length : Int)) = true := decide_eq_true g3
      have p1' : wr.drew.cell? ⟨g, o + k * 2, none⟩ = some (.string ⟨x.1.toArray⟩) := p1
      have p2' : wr.drew.cell? ⟨g, o + k * 2 + 1, none⟩ = some (.string ⟨x.2.toArray⟩) := p2
      have kv := rvalue_any x.2 wr.drew (by omega)
      rw [hV] at kv
      have hbe1 : Below w.heap.size w wr.drew := hbe.drew
      have hS0' : k = 0 → joinB 43 ((r.map avB).take k) = S := fun _ => hS
      clear hcc hcell hj hlen hav hV hS hx hr0
      have q1 : ∀ A B : List UInt8, (⟨A.toArray⟩ ++ ⟨B.toArray⟩ : ByteArray) = ⟨(A ++ B).toArray⟩ := app_mk
      by_cases hk0 : k = 0
      · subst hk0
        have hS0 : S = [] := (hS0' rfl).symm
        clear hS0'
        rw [Nat.zero_mul, Nat.add_zero] at p1' p2'
        have g5 : decide ((0 : Int) < ((0 : Nat) : Int)) = false := by decide
        obtain ⟨T, hT⟩ : ∃ T, S = T := ⟨_, rfl⟩
        have hTl : T.length ≤ 20001 := by rw [← hT]; omega
        rw [hT]
        have e1 : (⟨T.toArray⟩ ++ ⟨x.1.toArray⟩ : ByteArray) = ⟨(T ++ x.1).toArray⟩ := app_mk _ _
        obtain ⟨U, hU⟩ : ∃ U, T ++ x.1 = U := ⟨_, rfl⟩
        have hUl : U.length ≤ 20065 := by rw [← hU]; simp; omega
        rw [hU] at e1
        have e2 : (⟨U.toArray⟩ ++ ⟨#[61]⟩ : ByteArray) = ⟨(U ++ [61]).toArray⟩ := app_mk U [61]
        obtain ⟨X, hX⟩ : ∃ X, U ++ [61] = X := ⟨_, rfl⟩
        have hXl : X.length ≤ 20066 := by rw [← hX]; simp; omega
        rw [hX] at e2
        have e3 : (⟨X.toArray⟩ ++ ⟨V.toArray⟩ : ByteArray) = ⟨(X ++ V).toArray⟩ := app_mk _ _
        have HE := Lib.hid (show joinB 43 ((r.map avB).take (0 + 1)) = X ++ V by rw [HJ.out, if_pos rfl, ← hX, ← hU, ← hT, hS0]; simp)
        have sz1 : ¬ (9223372036854775807 < T.length + x.1.length) := by omega
        have sz2 : ¬ (9223372036854775807 < U.length + 1) := by omega
        have sz3 : ¬ (9223372036854775807 < X.length + V.length) := by omega
        clear hT hU hX HJ hS0 q1 p1 p2 hbe
        go_wp2_with fail
        go_region_held3 (fun w' => w'.cell? ⟨g, o, none⟩ = some (.string ⟨x.1.toArray⟩) ∧ w'.cell? ⟨g, o + 1, none⟩ = some (.string ⟨x.2.toArray⟩))
          (first | go_keep | exact ⟨p1', p2'⟩ | exact ⟨s0, s1⟩)
          (first
            | (go_at_call 216; refine Calls.mono (show Calls _ _ _ _ _ from kv) ?_; rintro e w4 ⟨rfl, hb4⟩; have s0 := (hb4.cell (lt_of_cell p1')).trans p1'; have s1 := (hb4.cell (lt_of_cell p2')).trans p2'; have hbe4 := below_ext hbe1 hb4))
        go_wp2_with fail
        go_roundw
        case rel => exact ⟨0 + 1, _, by go_num, by omega, rfl, HE.out, by rw [← HE.out]; exact HLN.out, hbe4⟩
        case measure => simp [RowKit.intOf]; omega
      · clear hS0'
        have g5 : decide ((0 : Int) < (k : Int)) = true := decide_eq_true (by omega)
        have e43 : (⟨S.toArray⟩ ++ ⟨#[43]⟩ : ByteArray) = ⟨(S ++ [43]).toArray⟩ := app_mk S [43]
        obtain ⟨T, hT⟩ : ∃ T, S ++ [43] = T := ⟨_, rfl⟩
        have hTl : T.length ≤ 20001 := by rw [← hT]; simp; omega
        rw [hT] at e43
        have e1 : (⟨T.toArray⟩ ++ ⟨x.1.toArray⟩ : ByteArray) = ⟨(T ++ x.1).toArray⟩ := app_mk _ _
        obtain ⟨U, hU⟩ : ∃ U, T ++ x.1 = U := ⟨_, rfl⟩
        have hUl : U.length ≤ 20065 := by rw [← hU]; simp; omega
        rw [hU] at e1
        have e2 : (⟨U.toArray⟩ ++ ⟨#[61]⟩ : ByteArray) = ⟨(U ++ [61]).toArray⟩ := app_mk U [61]
        obtain ⟨X, hX⟩ : ∃ X, U ++ [61] = X := ⟨_, rfl⟩
        have hXl : X.length ≤ 20066 := by rw [← hX]; simp; omega
        rw [hX] at e2
        have e3 : (⟨X.toArray⟩ ++ ⟨V.toArray⟩ : ByteArray) = ⟨(X ++ V).toArray⟩ := app_mk _ _
        have HE := Lib.hid (show joinB 43 ((r.map avB).take (k + 1)) = X ++ V by rw [HJ.out, if_neg hk0, ← hX, ← hU, ← hT]; simp)
        have sz0 : ¬ (9223372036854775807 < S.length + 1) := by omega
        have sz1 : ¬ (9223372036854775807 < T.length + x.1.length) := by omega
        have sz2 : ¬ (9223372036854775807 < U.length + 1) := by omega
        have sz3 : ¬ (9223372036854775807 < X.length + V.length) := by omega
        clear hT hU hX HJ q1 p1 p2 hbe
        go_wp2_with fail
        go_region_held3 (fun w' => w'.cell? ⟨g, o + k * 2, none⟩ = some (.string ⟨x.1.toArray⟩) ∧ w'.cell? ⟨g, o + k * 2 + 1, none⟩ = some (.string ⟨x.2.toArray⟩))
          (first | go_keep | exact ⟨p1', p2'⟩ | exact ⟨s0, s1⟩)
          (first
            | (go_at_call 216; refine Calls.mono (show Calls _ _ _ _ _ from kv) ?_; rintro e w4 ⟨rfl, hb4⟩; have s0 := (hb4.cell (lt_of_cell p1')).trans p1'; have s1 := (hb4.cell (lt_of_cell p2')).trans p2'; have hbe4 := below_ext hbe1 hb4))
        go_wp2_with fail
        go_roundw
        case rel => exact ⟨k + 1, _, by go_num, by omega, rfl, HE.out, by rw [← HE.out]; exact HLN.out, hbe4⟩
        case measure => simp [RowKit.intOf]; omega
    · obtain rfl : k = r.length := by omega
      have g4 : decide (((r.length : Nat) : Int) < (r.length : Int)) = false := decide_eq_false (by omega)
      have e : ANS = S := by rw [← HANS.out, ← hS, List.take_of_length_le (by simp)]; rfl
      subst e
      clear hS HANS
      go_wp2_with fail
      go_ret
      exact ⟨rfl, hbe⟩
end Go.Proofs.YtegigcneimjimaaGreatDoor
