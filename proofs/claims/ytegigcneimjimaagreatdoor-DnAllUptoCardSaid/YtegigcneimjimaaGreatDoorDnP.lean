/- dn's reader: a pair. -/
import Derived.Test.YtegigcneimjimaaGreatDoorDnV
namespace Go.Proofs.YtegigcneimjimaaGreatDoor
open Go.RowKit Go.Lib

theorem Kept.block {b g : Nat} {w w' : World} {o : Obj} (h : Kept b w w') (hg : w.heap[g]? = some o) (hne : g ≠ b) : w'.heap[g]? = some o := by
  rw [h.2.2.2.2 g (Array.getElem?_eq_some_iff.1 hg).1 hne]; exact hg
theorem alloc_at (Y : World) (o : Obj) (n : Nat) (h : n = Y.heap.size) : (Y.alloc o).heap[n]? = some o := by subst h; show (Y.heap.push o)[Y.heap.size]? = some o; simp
def Two (w : World) (g : Nat) (x y : List UInt8) : Prop := w.heap[g]? = some (.cells #[.string ⟨x.toArray⟩, .string ⟨y.toArray⟩] 146 (0, 0))
theorem Two.cells {w : World} {g : Nat} {x y : List UInt8} (h : Two w g x y) : w.cell? ⟨g, 0, none⟩ = some (.string ⟨x.toArray⟩) ∧ w.cell? ⟨g, 1, none⟩ = some (.string ⟨y.toArray⟩) ∧ w.frozen? ⟨g, 0, none⟩ = false ∧ w.frozen? ⟨g, 1, none⟩ = false :=
  ⟨by rw [Lib.cell_of_heap h]; rfl, by rw [Lib.cell_of_heap h]; rfl, Lib.frozen_of_heap h 0, Lib.frozen_of_heap h 1⟩
theorem Two.set0 {w : World} {g : Nat} {x y : List UInt8} (h : Two w g x y) (z : List UInt8) : Two (w.setCell ⟨g, 0, none⟩ (.string ⟨z.toArray⟩)) g z y := by
  unfold Two
  rw [heap_setCell_same w g 0 _ _ _ h]
  rfl
theorem Two.set1 {w : World} {g : Nat} {x y : List UInt8} (h : Two w g x y) (z : List UInt8) : Two (w.setCell ⟨g, 1, none⟩ (.string ⟨z.toArray⟩)) g x z := by
  unfold Two
  rw [heap_setCell_same w g 1 _ _ _ h]
  rfl
theorem Two.other {w : World} {g g' i : Nat} {x y : List UInt8} (h : Two w g x y) (v : Value) (hne : g ≠ g') : Two (w.setCell ⟨g', i, none⟩ v) g x y := by
  unfold Two
  rw [heap_setCell_other w ⟨g', i, none⟩ g v hne]
  exact h
theorem Rd.other {w : World} {b g' i : Nat} {s r : List UInt8} (h : Rd w b s r) (v : Value) (hne : b ≠ g') : Rd (w.setCell ⟨g', i, none⟩ v) b s r := by
  obtain ⟨k, h1, h2, h3⟩ := h
  exact ⟨k, h1, h2, by unfold RAt; rw [heap_setCell_other w ⟨g', i, none⟩ b v hne]; exact h3⟩
theorem Rd.below {w w' : World} {b : Nat} {s r : List UInt8} (h : Rd w b s r) (hb : Below w.heap.size w w') : Rd w' b s r := by
  obtain ⟨k, h1, h2, h3⟩ := h
  exact ⟨k, h1, h2, h3.below hb⟩
theorem Kept.new {b g i : Nat} {w wr : World} (h : Kept b w wr) (hg : w.heap.size ≤ g) (v : Value) : Kept b w (wr.setCell ⟨g, i, none⟩ v) :=
  ⟨h.1, h.2.1, h.2.2.1, by simpa using h.2.2.2.1, fun j hj hne => (heap_setCell_other wr ⟨g, i, none⟩ j v (by show j ≠ g; omega)).trans (h.2.2.2.2 j hj hne)⟩
theorem rPair_a {r : List UInt8} (h : isTyB ((blanksB r).takeWhile inTyB) = false) : rPair r = none := by
  unfold rPair; simp only [h]; rfl
theorem rPair_b {r z : List UInt8} (h : isTyB ((blanksB r).takeWhile inTyB) = true) (hz : blanksB ((blanksB r).dropWhile inTyB) = z) (h61 : headIs z 61 = false) : rPair r = none := by
  unfold rPair
  simp only [h, if_true, hz]
  split
  · simp [headIs] at h61
  · rfl
theorem rPair_c {r r3 : List UInt8} (h : isTyB ((blanksB r).takeWhile inTyB) = true) (hz : blanksB ((blanksB r).dropWhile inTyB) = 61 :: r3) :
    rPair r = match rValue (blanksB r3) with | some (v, r4) => some (((blanksB r).takeWhile inTyB, v), blanksB r4) | none => none := by
  unfold rPair
  simp only [h, if_true, hz]
  cases rValue (blanksB r3) <;> rfl
set_option maxRecDepth 100000 in
set_option maxHeartbeats 4000000 in
theorem pair_any (b : Nat) (s r : List UInt8) (w : World) (h : Rd w b s r) (hs : s.length ≤ 1099511627776) (hE : EnvK b w) :
    Calls Tryz.prog 249 #[.pointer (some ⟨b, 0, none⟩)] w fun e w' => (match rPair r with | some (a, r') => e = .returned (.agg #[.string ⟨a.1.toArray⟩, .string ⟨a.2.toArray⟩]) ∧ Rd w' b s r' | none => e = .panicked [{ v := perr, recovered := false }]) ∧ Kept b w w' := by
  have hlb : b < w.heap.size := by obtain ⟨_, _, _, hh⟩ := h; exact hh.lt
  obtain ⟨ANS, hA⟩ : ∃ ANS, rPair r = ANS := ⟨_, rfl⟩
  rw [hA]
  have HA := Lib.hid hA
  clear hA
  obtain ⟨PR, hPR⟩ : ∃ PR : Ending → World → Prop, PR = fun e w' => (match ANS with | some (a, r') => e = .returned (.agg #[.string ⟨a.1.toArray⟩, .string ⟨a.2.toArray⟩]) ∧ Rd w' b s r' | none => e = .panicked [{ v := perr, recovered := false }]) ∧ Kept b w w' := ⟨_, rfl⟩
  rw [← hPR]
  have HP := Lib.hid hPR
  clear hPR
  have hkA : Kept b w ((w.alloc (.cells #[.string ⟨#[]⟩, .string ⟨#[]⟩] 146)).alloc (.cells #[.string ⟨#[]⟩, .string ⟨#[]⟩] 146)) := ((Kept.refl b w).alloc _).alloc _
  have hrA : Rd ((w.alloc (.cells #[.string ⟨#[]⟩, .string ⟨#[]⟩] 146)).alloc (.cells #[.string ⟨#[]⟩, .string ⟨#[]⟩] 146)) b s r := (h.below ((Below.refl _ _).alloc (Nat.le_refl _) _)).below ((Below.refl _ _).alloc (Nat.le_refl _) _)
  have hBA : Two ((w.alloc (.cells #[.string ⟨#[]⟩, .string ⟨#[]⟩] 146)).alloc (.cells #[.string ⟨#[]⟩, .string ⟨#[]⟩] 146)) w.heap.size [] [] := (Lib.alloc_old _ _ _ (by simp)).trans (by show (w.heap.push _)[w.heap.size]? = _; simp)
  have hCA : Two ((w.alloc (.cells #[.string ⟨#[]⟩, .string ⟨#[]⟩] 146)).alloc (.cells #[.string ⟨#[]⟩, .string ⟨#[]⟩] 146)) (w.heap.size + 1) [] [] := alloc_at _ _ _ (by simp)
  go_enter Tryz.func249, Tryz.ntmps249
  go_upto_region 2 with fail
  generalize ((w.alloc (.cells #[.string ⟨#[]⟩, .string ⟨#[]⟩] 146)).alloc (.cells #[.string ⟨#[]⟩, .string ⟨#[]⟩] 146)) = wA at hkA hrA hBA hCA ⊢
  go_upto_region 3 with (go_at_call 275; refine Calls.mono (show Calls _ _ _ _ _ from blanks_any b s r wA hrA hs) ?_; rintro e w1 ⟨rfl, hr1, hk1⟩)
  have hkw1 := hkA.trans hk1
  have hB1 := hk1.block hBA (by omega)
  have hC1 := hk1.block hCA (by omega)
  have kt := typ_any b s (blanksB r) w1 hr1 hs (hE.kept hkw1).env (fun w' hk => ((hE.kept hkw1).kept hk).env)
  obtain ⟨T, hT⟩ : ∃ T, (blanksB r).takeWhile inTyB = T := ⟨_, rfl⟩
  obtain ⟨D, hD⟩ : ∃ D, (blanksB r).dropWhile inTyB = D := ⟨_, rfl⟩
  rw [hT, hD] at kt
  cases hty : isTyB T with
  | false =>
    rw [hty] at kt
    simp only [Bool.false_eq_true, if_false] at kt
    have hans : ANS = none := by rw [← HA.out]; exact rPair_a (by rw [hT]; exact hty)
    go_wp2_with (go_at_call 276; refine Calls.mono (show Calls _ _ _ _ _ from kt) ?_; rintro e w2 ⟨rfl, hk2⟩)
    refine ⟨rfl, ?_⟩
    rw [HP.out, hans]
    exact ⟨rfl, hkw1.trans hk2⟩
  | true =>
    rw [hty] at kt
    simp only [if_true] at kt
    have hty2 : isTyB ((blanksB r).takeWhile inTyB) = true := by rw [hT]; exact hty
    go_wp2_with (go_at_call 276; refine Calls.mono (show Calls _ _ _ _ _ from kt) ?_; rintro e w2 ⟨⟨rfl, hr2⟩, hk2⟩; have hkw2 := hkw1.trans hk2; have hB2 : Two w2 w.heap.size [] [] := hk2.block hB1 (by omega); have hC2 : Two w2 (w.heap.size + 1) [] [] := hk2.block hC1 (by omega); obtain ⟨q0, q1, q2, q3⟩ := hC2.cells)
    have hr3 := hr2.other (g' := w.heap.size + 1) (i := 0) (.string ⟨T.toArray⟩) (by omega)
    have hkw3 := hkw2.new (g := w.heap.size + 1) (i := 0) (by omega) (.string ⟨T.toArray⟩)
    have hB3 := hB2.other (g' := w.heap.size + 1) (i := 0) (.string ⟨T.toArray⟩) (by omega)
    have hC3 := hC2.set0 T
    generalize w2.setCell ⟨w.heap.size + 1, 0, none⟩ (.string ⟨T.toArray⟩) = w3 at hr3 hkw3 hB3 hC3 ⊢
    clear q0 q1 q2 q3 hB2 hC2 hr2 hkw2 hk2
    refine Calls.mono (show Calls _ _ _ _ _ from blanks_any b s D w3 hr3 hs) ?_
    rintro e w4 ⟨rfl, hr4, hk4⟩
    have hkw4 := hkw3.trans hk4
    have hB4 : Two w4 w.heap.size [] [] := hk4.block hB3 (by omega)
    have hC4 : Two w4 (w.heap.size + 1) T [] := hk4.block hC3 (by omega)
    obtain ⟨z, hz⟩ : ∃ z, blanksB D = z := ⟨_, rfl⟩
    rw [hz] at hr4
    have hz2 : blanksB ((blanksB r).dropWhile inTyB) = z := by rw [hD]; exact hz
    obtain ⟨k4, hk4l, hdr4, hR4⟩ := hr4
    have ki := is_any b k4 s z 61 w4 hR4 hk4l hdr4
    cases h61 : headIs z 61 with
    | false =>
      rw [h61] at ki
      have hans : ANS = none := by rw [← HA.out]; exact rPair_b hty2 hz2 h61
      go_wp2_with (go_at_call 199; refine Calls.mono (show Calls _ _ _ _ _ from ki) ?_; rintro e w5 ⟨rfl, m, hw5⟩; have hkw5 : Kept b w w5 := (by rw [hw5]; exact hkw4.trans (Kept.of_below (Below.drewN (Below.refl _ _) m))); clear hw5)
      refine ⟨rfl, ?_⟩
      rw [HP.out, hans]
      exact ⟨rfl, hkw5⟩
    | true =>
      rw [h61] at ki
      obtain ⟨r3, rfl⟩ : ∃ t, z = 61 :: t := by
        cases z with
        | nil => simp [headIs] at h61
        | cons x t => simp [headIs] at h61; subst h61; exact ⟨t, rfl⟩
      have hrp := rPair_c hty2 hz2
      rw [HA.out, hT] at hrp
      obtain ⟨hlt4, hdr5⟩ := drop_lt hdr4
      go_wp2_with (go_at_call 199; refine Calls.mono (show Calls _ _ _ _ _ from ki) ?_; rintro e w5 ⟨rfl, m, hw5⟩; have hkw5 : Kept b w w5 := (by rw [hw5]; exact hkw4.trans (Kept.of_below (Below.drewN (Below.refl _ _) m))); have hR5 : RAt w5 b s k4 := (by rw [hw5]; exact hR4.drewN m); have hB5 : Two w5 w.heap.size [] [] := (by rw [hw5]; exact hB4); have hC5 : Two w5 (w.heap.size + 1) T [] := (by rw [hw5]; exact hC4); clear hw5; obtain ⟨q0, q1, q2⟩ := hR5.cells)
      have hR6 := hR5.set1
      have hkw6 := hkw5.trans (Kept.set b w5 1 (.int .i64 ((k4 : Int) + 1)))
      have hB6 := hB5.other (g' := b) (i := 1) (.int .i64 ((k4 : Int) + 1)) (by omega)
      have hC6 := hC5.other (g' := b) (i := 1) (.int .i64 ((k4 : Int) + 1)) (by omega)
      generalize w5.setCell ⟨b, 1, none⟩ (.int .i64 ((k4 : Int) + 1)) = w6 at hR6 hkw6 hB6 hC6 ⊢
      clear q0 q1 q2 hB5 hC5 hR5 hkw5
      refine Calls.mono (show Calls _ _ _ _ _ from blanks_any b s r3 w6 ⟨k4 + 1, hlt4, hdr5, hR6⟩ hs) ?_
      rintro e w7 ⟨rfl, hr7, hk7⟩
      have hkw7 := hkw6.trans hk7
      have hB7 : Two w7 w.heap.size [] [] := hk7.block hB6 (by omega)
      have hC7 : Two w7 (w.heap.size + 1) T [] := hk7.block hC6 (by omega)
      have kv := value_any b s (blanksB r3) w7 hr7 hs
      cases hv : rValue (blanksB r3) with
      | none =>
        rw [hv] at kv hrp
        go_wp2_with (go_at_call 277; refine Calls.mono (show Calls _ _ _ _ _ from kv) ?_; rintro e w8 ⟨rfl, hk8⟩)
        refine ⟨rfl, ?_⟩
        rw [HP.out, hrp]
        exact ⟨rfl, hkw7.trans hk8⟩
      | some p =>
        obtain ⟨V, r4⟩ := p
        rw [hv] at kv hrp
        go_wp2_with (go_at_call 277; refine Calls.mono (show Calls _ _ _ _ _ from kv) ?_; rintro e w8 ⟨⟨rfl, hr8⟩, hk8⟩; have hkw8 := hkw7.trans hk8; have hB8 : Two w8 w.heap.size [] [] := hk8.block hB7 (by omega); have hC8 : Two w8 (w.heap.size + 1) T [] := hk8.block hC7 (by omega); obtain ⟨q0, q1, q2, q3⟩ := hC8.cells)
        have hr9 := hr8.other (g' := w.heap.size + 1) (i := 1) (.string ⟨V.toArray⟩) (by omega)
        have hkw9 := hkw8.new (g := w.heap.size + 1) (i := 1) (by omega) (.string ⟨V.toArray⟩)
        have hB9 := hB8.other (g' := w.heap.size + 1) (i := 1) (.string ⟨V.toArray⟩) (by omega)
        have hC9 := hC8.set1 V
        generalize w8.setCell ⟨w.heap.size + 1, 1, none⟩ (.string ⟨V.toArray⟩) = w9 at hr9 hkw9 hB9 hC9 ⊢
        clear q0 q1 q2 q3 hB8 hC8 hr8 hkw8 hk8
        refine Calls.mono (show Calls _ _ _ _ _ from blanks_any b s r4 w9 hr9 hs) ?_
        rintro e w10 ⟨rfl, hr10, hk10⟩
        have hkw10 := hkw9.trans hk10
        have hB10 : Two w10 w.heap.size [] [] := hk10.block hB9 (by omega)
        have hC10 : Two w10 (w.heap.size + 1) T V := hk10.block hC9 (by omega)
        obtain ⟨q0, q1, q2, q3⟩ := hC10.cells
        obtain ⟨p0, p1, p2, p3⟩ := hB10.cells
        go_wp2_with fail
        have hB12 := (hB10.set0 T).set1 V
        have hkw12 := (hkw10.new (g := w.heap.size) (i := 0) (Nat.le_refl _) (.string ⟨T.toArray⟩)).new (g := w.heap.size) (i := 1) (Nat.le_refl _) (.string ⟨V.toArray⟩)
        have hr12 := (hr10.other (g' := w.heap.size) (i := 0) (.string ⟨T.toArray⟩) (by omega)).other (g' := w.heap.size) (i := 1) (.string ⟨V.toArray⟩) (by omega)
        clear q0 q1 q2 q3 p0 p1 p2 p3
        generalize (w10.setCell ⟨w.heap.size, 0, none⟩ (.string ⟨T.toArray⟩)).setCell ⟨w.heap.size, 1, none⟩ (.string ⟨V.toArray⟩) = w12 at hB12 hkw12 hr12 ⊢
        obtain ⟨y0, y1, _, _⟩ := hB12.cells
        refine bodyPost_ret (v := .agg #[.string ⟨T.toArray⟩, .string ⟨V.toArray⟩]) (by simp [results, Tryz.results249, go_sem, y0, y1]) rfl ?_
        rw [HP.out, hrp]
        exact ⟨⟨rfl, hr12⟩, hkw12⟩
end Go.Proofs.YtegigcneimjimaaGreatDoor
