/- chancerylaw4: alive; the law DnEscapes. -/
import Derived.Test.YtldcfilhgdjaeaaDoorDnC
import Derived.Test.YtldcfilhgdjaeaaDoorDnO
import Derived.Test.YtldcfilhgdjaeaaDoorDnS
import Derived.Test.YtldcfilhgdjaeaaDoorPlainEsc
namespace Go.Proofs.YtldcfilhgdjaeaaDoor
open Go.RowKit Go.Lib

theorem alive_ok : okV aliveN := by
  have h : aliveN.all (fun r => r.all fun a => validD a.2 && decide (a.1.length ≤ 1000000) && decide (a.2.length ≤ 1000000)) = true := by decide +kernel
  intro r hr a ha
  have h1 := List.all_eq_true.1 (List.all_eq_true.1 h r hr) a ha
  simp only [Bool.and_eq_true, decide_eq_true_eq] at h1
  exact ⟨h1.1.1, h1.1.2, h1.2⟩
set_option maxRecDepth 100000 in
set_option maxHeartbeats 4000000 in
theorem alive_any (w : World) (hE : Env w) : Calls Tryd.prog 7 #[] w fun e w' => e = .returned (.bool true) ∧ Below w.heap.size w w' := by
  have k1 := Parse_any aliveS w (by decide) hE
  rw [alive_parse] at k1
  simp only at k1
  go_enter Tryd.func7, Tryd.ntmps7
  go_wp2_with (first | (go_at_call 9; refine Calls.mono (show Calls _ _ _ _ _ from k1) ?_; rintro e w1 ⟨⟨v, rfl, hv⟩, hb1⟩; have k2 := Print_valid v aliveN w1 hv (hE.below hb1) alive_ok (by decide) (by decide); rw [alive_print] at k2; simp only at k2; obtain ⟨av, cv, hve, _, _⟩ := hv; subst hve) | (go_at_call 8; refine Calls.mono (show Calls _ _ _ _ _ from k2) ?_; rintro e w2 ⟨rfl, hb2⟩; have k3 := IsType_any [49, 46, 50] w2 (by decide) ((hE.below hb1).below hb2); rw [alive_type] at k3) | (go_at_call 15; refine Calls.mono (show Calls _ _ _ _ _ from k3) ?_; rintro e w3 ⟨rfl, hb3⟩))
  go_ret
  exact ⟨rfl, below_ext (below_ext hb1 hb2) hb3⟩
def digA : ByteArray := ⟨#[48, 49, 50, 51, 52, 53, 54, 55, 56, 57, 97, 98, 99, 100, 101, 102]⟩
theorem dig_cut (n : Nat) (h : n < 16) : digA.extract n (n + 1) = ⟨[hexC n].toArray⟩ := by
  have : ∀ i : Fin 16, digA.extract i.val (i.val + 1) = ⟨[hexC i.val].toArray⟩ := by decide +kernel
  exact this ⟨n, h⟩
def ERel (v : List UInt8) (s h i : Value) : Prop := ∃ k : Nat, i = .int .i64 (k : Int) ∧ k ≤ v.length ∧ s = .string ⟨([99, 110, 61] ++ escB (v.take k)).toArray⟩ ∧ h = .string ⟨([99, 110, 61, 35] ++ hexL (v.take k)).toArray⟩
theorem escB_append (a b : List UInt8) : escB (a ++ b) = escB a ++ escB b := by simp [escB]
theorem hexL_append (a b : List UInt8) : hexL (a ++ b) = hexL a ++ hexL b := by simp [hexL]
set_option maxRecDepth 100000 in
set_option maxHeartbeats 4000000 in
theorem DnEscapes_any (v : List UInt8) (w : World) (hv : v.length ≤ 140737488351232) (hE : Env w) :
    Calls Tryd.prog 4 #[.string ⟨v.toArray⟩] w fun e w' => e = .returned (.bool true) ∧ Below w.heap.size w w' := by
  by_cases hbig : 1024 < v.length
  · have k := alive_any w hE
    have q1 : decide ((1024 : Int) < (v.length : Int)) = true := decide_eq_true (by omega)
    go_enter Tryd.func4, Tryd.ntmps4
    go_wp2_with (go_at_call 7; refine k.mono ?_; rintro e w1 ⟨rfl, hb1⟩)
    go_ret
    exact ⟨rfl, hb1⟩
  · have q1 : decide ((1024 : Int) < (v.length : Int)) = false := decide_eq_false (by omega)
    go_enter Tryd.func4, Tryd.ntmps4
    go_wp2_with fail
    go_loopw [3, 4, 5] (fun s h i wr => ERel v s h i ∧ Below w.heap.size w wr) (fun _ _ i _ => v.length - (RowKit.intOf i).toNat)
    case atStart => exact ⟨⟨0, rfl, by omega, rfl, rfl⟩, Below.refl _ _⟩
    case round =>
      obtain ⟨⟨k, rfl, hk, rfl, rfl⟩, hbe⟩ := hrel
      by_cases hkl : k < v.length
      · obtain ⟨x, hx⟩ : ∃ x, v[k] = x := ⟨_, rfl⟩
        have hbx : ∀ h', (⟨v.toArray⟩ : ByteArray)[k]'h' = x := fun h' => hx
        have hx8 := UInt8.toNat_lt x
        have htk : v.take (k + 1) = v.take k ++ [x] := by rw [List.take_add_one, List.getElem?_eq_getElem hkl, hx]; rfl
        obtain ⟨n1, hn1⟩ : ∃ n, x.toNat / 16 = n := ⟨_, rfl⟩
        obtain ⟨n2, hn2⟩ : ∃ n, x.toNat % 16 = n := ⟨_, rfl⟩
        have hl1 : n1 < 16 := by omega
        have hl2 : n2 < 16 := by omega
        have c1 : ∀ m, m = n1 + 1 → (⟨#[48, 49, 50, 51, 52, 53, 54, 55, 56, 57, 97, 98, 99, 100, 101, 102]⟩ : ByteArray).extract n1 m = ⟨#[hexC n1]⟩ := fun m hm => by rw [hm]; exact dig_cut n1 hl1
        have c2 : ∀ m, m = n2 + 1 → (⟨#[48, 49, 50, 51, 52, 53, 54, 55, 56, 57, 97, 98, 99, 100, 101, 102]⟩ : ByteArray).extract n2 m = ⟨#[hexC n2]⟩ := fun m hm => by rw [hm]; exact dig_cut n2 hl2
        have c1' := c1 _ rfl
        have c2' := c2 _ rfl
        have e1 : (x.toNat : Int) / 16 = (n1 : Int) := by omega
        have e2 : (x.toNat : Int) % 16 = (n2 : Int) := by omega
        have e3 : Int.tdiv (x.toNat : Int) 16 = (n1 : Int) := by rw [Int.tdiv_eq_ediv_of_nonneg (by omega)]; exact e1
        have e4 : Int.tmod (x.toNat : Int) 16 = (n2 : Int) := by rw [Int.tmod_eq_emod_of_nonneg (by omega)]; exact e2
        have w1 : IntKind.u8.wrap (n1 : Int) = (n1 : Int) := by rw [IntKind.wrap_u8]; omega
        have w2 : IntKind.u8.wrap (n2 : Int) = (n2 : Int) := by rw [IntKind.wrap_u8]; omega
        have w3 : IntKind.u8.wrap ((n1 : Int) + 1) = (n1 : Int) + 1 := by rw [IntKind.wrap_u8]; omega
        have w4 : IntKind.u8.wrap ((n2 : Int) + 1) = (n2 : Int) + 1 := by rw [IntKind.wrap_u8]; omega
        have z1 : ((n1 : Int) + 1).toNat = n1 + 1 := by omega
        have z2 : ((n2 : Int) + 1).toNat = n2 + 1 := by omega
        have g1 : (n1 : Int) + 1 ≤ 16 := by omega
        have g2 : (n2 : Int) + 1 ≤ 16 := by omega
        have g3 : (k : Int) < (v.length : Int) := by omega
        have g4 : decide ((k : Int) < (v.length : Int)) = true := decide_eq_true g3
        obtain ⟨A, hA⟩ : ∃ A, [99, 110, 61] ++ escB (v.take k) = A := ⟨_, rfl⟩
        obtain ⟨B, hB⟩ : ∃ B, [99, 110, 61, 35] ++ hexL (v.take k) = B := ⟨_, rfl⟩
        have hAl : A.length ≤ 10000 := by rw [← hA]; simp [escB_length]; omega
        have hBl : B.length ≤ 10000 := by rw [← hB]; simp [hexL_length]; omega
        rw [hA, hB]
        have hcat1 : (⟨A.toArray⟩ ++ (⟨#[92]⟩ ++ ⟨#[hexC n1]⟩ ++ ⟨#[hexC n2]⟩) : ByteArray) = ⟨(A ++ [92, hexC n1, hexC n2]).toArray⟩ := by
          apply ByteArray.ext
          simp [ByteArray.data_append]
        have hcat2 : (⟨B.toArray⟩ ++ (⟨#[hexC n1]⟩ ++ ⟨#[hexC n2]⟩) : ByteArray) = ⟨(B ++ [hexC n1, hexC n2]).toArray⟩ := by
          apply ByteArray.ext
          simp [ByteArray.data_append]
        have hA2 : A ++ [92, hexC n1, hexC n2] = [99, 110, 61] ++ escB (v.take (k + 1)) := by
          rw [htk, escB_append, ← hA, escB_cons, hn1, hn2]
          simp [escB]
        have hB2 : B ++ [hexC n1, hexC n2] = [99, 110, 61, 35] ++ hexL (v.take (k + 1)) := by
          rw [htk, hexL_append, ← hB, hexL_cons, hn1, hn2]
          simp [hexL]
        obtain ⟨A', hA'⟩ : ∃ A', A ++ [92, hexC n1, hexC n2] = A' := ⟨_, rfl⟩
        obtain ⟨B', hB'⟩ : ∃ B', B ++ [hexC n1, hexC n2] = B' := ⟨_, rfl⟩
        rw [hA'] at hcat1 hA2
        rw [hB'] at hcat2 hB2
        have HA := Lib.hid hA2
        have HB := Lib.hid hB2
        clear hA hB hA' hB' hA2 hB2 htk hx hn1 hn2 c1 c2
        go_wp2
        go_quiet (fail)
        go_wp2
        go_quiet (fail)
        go_wp2
        go_roundw
        case rel => exact ⟨⟨k + 1, by go_num, by omega, by rw [HA.out], by rw [HB.out]⟩, Below.drewN hbe _⟩
        case measure => simp [RowKit.intOf]; omega
      · obtain rfl : k = v.length := by omega
        rw [List.take_of_length_le (Nat.le_refl _)]
        have p1 := parse_esc v (by omega)
        have p2 := parse_hash v (by omega)
        obtain ⟨A, hA⟩ : ∃ A, [99, 110, 61] ++ escB v = A := ⟨_, rfl⟩
        obtain ⟨B, hB⟩ : ∃ B, [99, 110, 61, 35] ++ hexL v = B := ⟨_, rfl⟩
        have hAl : A.length ≤ 10000 := by rw [← hA]; simp [escB_length]; omega
        have hBl : B.length ≤ 10000 := by rw [← hB]; simp [hexL_length]; omega
        rw [hA] at p1 ⊢
        rw [hB] at p2 ⊢
        clear hA hB
        have hbA := (hbe.alloc hbe.size (.cells #[.string ⟨#[99, 110]⟩, .string ⟨v.toArray⟩] 33)).alloc (by have := hbe.size; simp; omega) (.cells #[.slice (some ⟨wr.heap.size, 0, none⟩) 1 1] 35)
        have hW : DnAt ((wr.alloc (.cells #[.string ⟨#[99, 110]⟩, .string ⟨v.toArray⟩] 33)).alloc (.cells #[.slice (some ⟨wr.heap.size, 0, none⟩) 1 1] 35)) (.slice (some ⟨wr.heap.size + 1, 0, none⟩) 1 1) [[([99, 110], v)]] := by
          refine ⟨_, 1, rfl, Nat.le_refl _, fun _ => ⟨wr.heap.size + 1, 0, rfl, fun j r hj => ?_⟩⟩
          match j, hj with
          | 0, hj =>
            simp at hj
            subst hj
            refine ⟨_, by rw [Nat.add_zero, Lib.cell_of_heap (alloc_at _ _ _ (by simp))]; rfl, _, 1, rfl, Nat.le_refl _, fun _ => ⟨wr.heap.size, 0, rfl, fun i y hi => ?_⟩⟩
            match i, hi with
            | 0, hi =>
              simp at hi
              subst hi
              have hb := (Lib.alloc_old (wr.alloc (.cells #[.string ⟨#[99, 110]⟩, .string ⟨v.toArray⟩] 33)) (.cells #[.slice (some ⟨wr.heap.size, 0, none⟩) 1 1] 35) wr.heap.size (by simp)).trans (alloc_at _ _ _ rfl)
              exact ⟨by rw [Lib.cell_of_heap hb]; rfl, by rw [Lib.cell_of_heap hb]; rfl⟩
            | i + 1, hi => simp at hi
          | j + 1, hj => simp at hj
        go_upto_region 10 with fail
        generalize (wr.alloc (.cells #[.string ⟨#[99, 110]⟩, .string ⟨v.toArray⟩] 33)).alloc (.cells #[.slice (some ⟨wr.heap.size, 0, none⟩) 1 1] 35) = wA at hbA hW ⊢
        have k1 := Parse_any A wA (by omega) (hE.below hbA)
        rw [p1] at k1
        simp only at k1
        go_upto_region 11 with (go_at_call 9; refine Calls.mono (show Calls _ _ _ _ _ from k1) ?_; rintro e w1 ⟨⟨x1, rfl, hx1⟩, hb1⟩; have hbw1 := below_ext hbA hb1; have hW1 := hW.below hb1; have ks := Same_any x1 _ _ _ w1 hx1 hW1 (by simp) (by simp) (by simp) (by simp); rw [decide_eq_true rfl] at ks; obtain ⟨a1, c1, hx1e, _, _⟩ := hx1; subst hx1e)
        go_upto_region 13 with (go_at_call 10; refine Calls.mono (show Calls _ _ _ _ _ from ks) ?_; rintro e w2 ⟨rfl, hb2⟩; have hbw2 := below_ext hbw1 hb2; have hW2 := hW1.below hb2; have k3 := Parse_any B w2 (by omega) (hE.below hbw2); rw [p2] at k3)
        by_cases hv0 : v = []
        · rw [if_pos hv0] at k3
          simp only at k3
          subst hv0
          go_upto_region 14 with (go_at_call 9; refine Calls.mono (show Calls _ _ _ _ _ from k3) ?_; rintro e w3 ⟨⟨x3, rfl, hx3⟩, hb3⟩; have hbw3 := below_ext hbw2 hb3; have k4 := alive_any w3 (hE.below hbw3); obtain ⟨a3, c3, hx3e, _, _⟩ := hx3; subst hx3e)
          go_wp2_with (go_at_call 7; refine Calls.mono (show Calls _ _ _ _ _ from k4) ?_; rintro e w4 ⟨rfl, hb4⟩)
          go_ret
          exact ⟨rfl, below_ext hbw3 hb4⟩
        · rw [if_neg hv0] at k3
          simp only at k3
          have hve : v.isEmpty = false := by cases v <;> simp_all
          go_upto_region 14 with (go_at_call 9; refine Calls.mono (show Calls _ _ _ _ _ from k3) ?_; rintro e w3 ⟨⟨x3, rfl, hx3⟩, hb3⟩; have hbw3 := below_ext hbw2 hb3; have hW3 := hW2.below hb3; have k4 := alive_any w3 (hE.below hbw3))
          obtain ⟨a3, c3, hx3e⟩ : ∃ a3 c3, x3 = .slice a3 1 c3 := by obtain ⟨a, c, h, _⟩ := hx3; exact ⟨a, c, h⟩
          subst hx3e
          go_wp2_with (first | (go_at_call 7; refine Calls.mono (show Calls _ _ _ _ _ from k4) ?_; rintro e w4 ⟨rfl, hb4⟩; have ks2 := Same_any _ _ _ _ w4 (hx3.below hb4) (hW3.below hb4) (by simp) (by simp) (by simp) (by simp); rw [decide_eq_true rfl] at ks2) | (go_at_call 10; refine Calls.mono (show Calls _ _ _ _ _ from ks2) ?_; rintro e w5 ⟨rfl, hb5⟩))
          go_ret
          exact ⟨rfl, below_ext (below_ext hbw3 hb4) hb5⟩
end Go.Proofs.YtldcfilhgdjaeaaDoor
