/- dn's reader: what stands behind a backslash. -/
import Derived.Test.YtegigcneimjimaaGreatDoorDnH
import Derived.Deep.RegionWith
namespace Go.Proofs.YtegigcneimjimaaGreatDoor
open Go.RowKit Go.Lib

theorem Esc_l (c : UInt8) (w : World) :
    Calls Tryz.prog 210 #[.string ⟨#[34, 43, 44, 59, 60, 62, 92, 61, 35, 32]⟩, .int .u8 (c.toNat : Int)] w fun e w' => e = .returned (.int .i64 (indexByte escL c)) ∧ w' = w :=
  (Tryz.strings_IndexByte ⟨#[34, 43, 44, 59, 60, 62, 92, 61, 35, 32]⟩ c.toNat w).mono fun e w' ⟨he, hw⟩ => ⟨by simpa [escL] using he, hw⟩
theorem Spc_l (c : UInt8) (w : World) :
    Calls Tryz.prog 210 #[.string ⟨#[34, 43, 44, 59, 60, 62, 92]⟩, .int .u8 (c.toNat : Int)] w fun e w' => e = .returned (.int .i64 (indexByte specL c)) ∧ w' = w :=
  (Tryz.strings_IndexByte ⟨#[34, 43, 44, 59, 60, 62, 92]⟩ c.toNat w).mono fun e w' ⟨he, hw⟩ => ⟨by simpa [specL] using he, hw⟩
theorem mem_index (l : List UInt8) (c : UInt8) : decide (0 ≤ indexByte l c) = decide (c ∈ l) := by
  rw [decide_eq_decide]
  induction l with
  | nil => simp [indexByte]
  | cons b l ih =>
    have hg := indexByte_ge l c
    unfold indexByte
    by_cases h : b = c
    · subst h; simp
    · rw [if_neg (by simpa using h)]
      by_cases h2 : indexByte l c = -1
      · rw [if_pos (by simpa using h2)]
        rw [h2] at ih
        simp only [List.mem_cons, ← ih]
        constructor
        · intro h; omega
        · rintro (h' | h')
          · exact absurd h'.symm h
          · omega
      · rw [if_neg (by simpa using h2)]
        simp only [List.mem_cons, ← ih]
        constructor
        · intro _; exact .inr (by omega)
        · intro _; omega
set_option maxRecDepth 100000 in
set_option maxHeartbeats 2000000 in
theorem escape_any (b : Nat) (s r : List UInt8) (w : World) (h : Rd w b s (92 :: r)) (hs : s.length ≤ 1099511627776) :
    Calls Tryz.prog 289 #[.pointer (some ⟨b, 0, none⟩)] w fun e w' => (match rEsc r with | some (x, r') => e = .returned (.int .u8 (x.toNat : Int)) ∧ Rd w' b s r' | none => e = .panicked [{ v := perr, recovered := false }]) ∧ Kept b w w' := by
  obtain ⟨k, hk, hr, h⟩ := h
  obtain ⟨hlt, hdr⟩ := drop_lt hr
  obtain ⟨q0, q1, q2⟩ := h.cells
  have w1 : IntKind.i64.wrap ((k : Int) + 1) = (k : Int) + 1 := wraps_i64 _ (by omega) (by omega)
  have w2 : IntKind.i64.wrap ((k : Int) + 2) = (k : Int) + 2 := wraps_i64 _ (by omega) (by omega)
  have z1 : ((k : Int) + 1).toNat = k + 1 := by omega
  have z2 : ((k : Int) + 2).toNat = k + 2 := by omega
  cases r with
  | nil =>
    have hl : k + 1 = s.length := by have := congrArg List.length hdr; simp at this; omega
    have t1 : decide ((k : Int) + 1 < (s.length : Int)) = false := decide_eq_false (by omega)
    have t2 : decide ((s.length : Int) ≤ (k : Int) + 2) = true := decide_eq_true (by omega)
    have t3 : decide ((k : Int) + 2 ≥ (s.length : Int)) = true := decide_eq_true (by omega)
    show Calls _ _ _ _ fun e w' => e = .panicked [{ v := perr, recovered := false }] ∧ Kept b w w'
    clear hl hr hdr
    go_enter Tryz.func289, Tryz.ntmps289
    go_wp2
    go_quiet (fail)
    go_wp2
    go_quiet (fail)
    go_wp2
    exact ⟨rfl, rfl, Kept.of_below (Below.drewN (Below.refl _ _) _)⟩
  | cons c t =>
    obtain ⟨hlt1, hdr1⟩ := drop_lt hdr
    have hb1 := fun h' => byte_at hdr h'
    have t1 : decide ((k : Int) + 1 < (s.length : Int)) = true := decide_eq_true (by omega)
    have lt1 : (k : Int) + 1 < (s.length : Int) := by omega
    have kE := fun n => Esc_l c (w.drewN n)
    have hm := mem_index escL c
    obtain ⟨V, hV⟩ : ∃ V, indexByte escL c = V := ⟨_, rfl⟩
    rw [hV] at kE hm
    by_cases hc : c ∈ escL
    · rw [show rEsc (c :: t) = some (c, t) by simp [rEsc, hc]]
      show Calls _ _ _ _ fun e w' => (e = .returned (.int .u8 (c.toNat : Int)) ∧ Rd w' b s t) ∧ Kept b w w'
      rw [decide_eq_true hc] at hm
      have hm2 : decide (V ≥ 0) = true := hm
      clear hV hr hdr
      go_enter Tryz.func289, Tryz.ntmps289
      go_wp2
      go_quiet (first | (go_at_call 210; exact Calls.quiet_of_same (kE _)))
      have h3 : RAt (w.drewN nq) b s k := h.drewN nq
      have hkp3 : Kept b w (w.drewN nq) := Kept.of_below (Below.drewN (Below.refl _ _) nq)
      clear q0 q1 q2 kE
      generalize w.drewN nq = wd at h3 hkp3 ⊢
      obtain ⟨q0, q1, q2⟩ := h3.cells
      have h4 : RAt (wd.setCell ⟨b, 1, none⟩ (.int .i64 ((k : Int) + 2))) b s (k + 2) := h3.set (k + 2)
      have hkp4 := hkp3.trans (Kept.set b wd 1 (.int .i64 ((k : Int) + 2)))
      go_upto_region 3 with fail
      generalize wd.setCell ⟨b, 1, none⟩ (.int .i64 ((k : Int) + 2)) = we at h4 hkp4 ⊢
      clear q0 q1 q2
      obtain ⟨q0, q1, q2⟩ := h4.cells
      have e1 : ((k + 2 : Nat) : Int) - 1 = (k : Int) + 1 := by omega
      have e2 : (k : Int) + 2 - 1 = (k : Int) + 1 := by omega
      go_quiet (fail)
      go_wp2
      go_ret
      exact ⟨⟨rfl, k + 2, hlt1, hdr1, h4.drewN _⟩, hkp4.trans (Kept.of_below (Below.drewN (Below.refl _ _) _))⟩
    · rw [decide_eq_false hc] at hm
      have hm2 : decide (V ≥ 0) = false := hm
      cases t with
      | nil =>
        rw [show rEsc [c] = none by simp [rEsc, hc]]
        show Calls _ _ _ _ fun e w' => e = .panicked [{ v := perr, recovered := false }] ∧ Kept b w w'
        have hl : k + 2 = s.length := by have := congrArg List.length hdr1; simp at this; omega
        have t2 : decide ((s.length : Int) ≤ (k : Int) + 2) = true := decide_eq_true (by omega)
        have t3 : decide ((k : Int) + 2 ≥ (s.length : Int)) = true := decide_eq_true (by omega)
        clear hl hV hr hdr
        go_enter Tryz.func289, Tryz.ntmps289
        go_wp2
        go_quiet (first | (go_at_call 210; exact Calls.quiet_of_same (kE _)))
        go_wp2
        go_quiet (fail)
        go_wp2
        exact ⟨rfl, rfl, Kept.of_below (Below.drewN (Below.refl _ _) _)⟩
      | cons d u =>
        obtain ⟨hlt2, hdr2⟩ := drop_lt hdr1
        have hb2 := fun h' => byte_at hdr1 h'
        have t2 : decide ((s.length : Int) ≤ (k : Int) + 2) = false := decide_eq_false (by omega)
        have t3 : decide ((k : Int) + 2 ≥ (s.length : Int)) = false := decide_eq_false (by omega)
        have lt2 : (k : Int) + 2 < (s.length : Int) := by omega
        have kx := fun n => Digit_any c (w.drewN n)
        have ky := fun n => Digit_any d (w.drewN n)
        by_cases hx : isHex c = true
        · obtain ⟨X, hX, hX1⟩ := isHex_nat hx
          rw [hX] at kx
          by_cases hy : isHex d = true
          · obtain ⟨Y, hY, hY1⟩ := isHex_nat hy
            rw [hY] at ky
            have hz := hexB_nat hX hY hX1 hY1
            rw [show rEsc (c :: d :: u) = some (hexB c d, u) by simp [rEsc, hc, hx, hy]]
            show Calls _ _ _ _ fun e w' => (e = .returned (.int .u8 ((hexB c d).toNat : Int)) ∧ Rd w' b s u) ∧ Kept b w w'
            rw [hz]
            have hor : bits .or .i64 ((X : Int) * 16) (Y : Int) = ((X : Int) * 16 + Y) := by
              have := or_low 4 (X * 16) Y (by omega) (by omega) (by omega) (by omega)
              simpa using this
            clear hV hr hdr hdr1 hz hx hy
            go_enter Tryz.func289, Tryz.ntmps289
            go_wp2
            go_quiet (first | (go_at_call 210; exact Calls.quiet_of_same (kE _)))
            have h3 : RAt (w.drewN nq) b s k := h.drewN nq
            have hkp3 : Kept b w (w.drewN nq) := Kept.of_below (Below.drewN (Below.refl _ _) nq)
            clear q0 q1 q2 kE kx ky
            generalize w.drewN nq = wa at h3 hkp3 ⊢
            obtain ⟨q0, q1, q2⟩ := h3.cells
            go_wp2
            go_quiet (fail)
            have h4 : RAt (wa.drewN nq) b s k := h3.drewN nq
            have hkp4 : Kept b w (wa.drewN nq) := hkp3.trans (Kept.of_below (Below.drewN (Below.refl _ _) nq))
            clear q0 q1 q2
            generalize wa.drewN nq = wb at h4 hkp4 ⊢
            obtain ⟨q0, q1, q2⟩ := h4.cells
            have kx := fun n => Digit_any c (wb.drewN n)
            have ky := fun n => Digit_any d (wb.drewN n)
            rw [hX] at kx
            rw [hY] at ky
            go_wp2
            go_quiet (first | (go_at_call_of 294 (Value.int .u8 (c.toNat : Int)); exact Calls.quiet_of_same ((kx _).mono fun e w' hh => ⟨hh.1, hh.2.symm⟩)) | (go_at_call_of 294 (Value.int .u8 (d.toNat : Int)); exact Calls.quiet_of_same ((ky _).mono fun e w' hh => ⟨hh.1, hh.2.symm⟩)))
            have h5 : RAt (wb.drewN nq) b s k := h4.drewN nq
            have hkp5 : Kept b w (wb.drewN nq) := hkp4.trans (Kept.of_below (Below.drewN (Below.refl _ _) nq))
            clear q0 q1 q2 kx ky
            generalize wb.drewN nq = wc at h5 hkp5 ⊢
            obtain ⟨q0, q1, q2⟩ := h5.cells
            have h6 : RAt (wc.setCell ⟨b, 1, none⟩ (.int .i64 ((k : Int) + 3))) b s (k + 3) := h5.set (k + 3)
            go_wp2
            go_ret
            exact ⟨⟨rfl, k + 3, hlt2, hdr2, h6⟩, hkp5.trans (Kept.set b wc 1 _)⟩
          · have hy2 : hexD d < 0 := by have : ¬ 0 ≤ hexD d := fun hh => hy (decide_eq_true hh); omega
            obtain ⟨Y, hY⟩ : ∃ Y, hexD d = Y := ⟨_, rfl⟩
            rw [hY] at ky hy2
            have g1 : decide (Y < 0) = true := decide_eq_true hy2
            rw [show rEsc (c :: d :: u) = none by simp [rEsc, hc, hx, hy]]
            show Calls _ _ _ _ fun e w' => e = .panicked [{ v := perr, recovered := false }] ∧ Kept b w w'
            clear hV hr hdr hdr1 hx hy
            go_enter Tryz.func289, Tryz.ntmps289
            go_wp2
            go_quiet (first | (go_at_call 210; exact Calls.quiet_of_same (kE _)))
            have h3 : RAt (w.drewN nq) b s k := h.drewN nq
            have hkp3 : Kept b w (w.drewN nq) := Kept.of_below (Below.drewN (Below.refl _ _) nq)
            clear q0 q1 q2 kE kx ky
            generalize w.drewN nq = wa at h3 hkp3 ⊢
            obtain ⟨q0, q1, q2⟩ := h3.cells
            go_wp2
            go_quiet (fail)
            have h4 : RAt (wa.drewN nq) b s k := h3.drewN nq
            have hkp4 : Kept b w (wa.drewN nq) := hkp3.trans (Kept.of_below (Below.drewN (Below.refl _ _) nq))
            clear q0 q1 q2
            generalize wa.drewN nq = wb at h4 hkp4 ⊢
            obtain ⟨q0, q1, q2⟩ := h4.cells
            have kx := fun n => Digit_any c (wb.drewN n)
            have ky := fun n => Digit_any d (wb.drewN n)
            rw [hX] at kx
            rw [hY] at ky
            go_wp2
            go_quiet (first | (go_at_call_of 294 (Value.int .u8 (c.toNat : Int)); exact Calls.quiet_of_same ((kx _).mono fun e w' hh => ⟨hh.1, hh.2.symm⟩)) | (go_at_call_of 294 (Value.int .u8 (d.toNat : Int)); exact Calls.quiet_of_same ((ky _).mono fun e w' hh => ⟨hh.1, hh.2.symm⟩)))
            go_wp2
            exact ⟨rfl, rfl, hkp4.trans (Kept.of_below (Below.drewN (Below.refl _ _) _))⟩
        · have hx2 : hexD c < 0 := by have : ¬ 0 ≤ hexD c := fun hh => hx (decide_eq_true hh); omega
          obtain ⟨X, hX⟩ : ∃ X, hexD c = X := ⟨_, rfl⟩
          rw [hX] at kx hx2
          obtain ⟨Y, hY⟩ : ∃ Y, hexD d = Y := ⟨_, rfl⟩
          rw [hY] at ky
          have g1 : decide (X < 0) = true := decide_eq_true hx2
          rw [show rEsc (c :: d :: u) = none by simp [rEsc, hc, hx]]
          show Calls _ _ _ _ fun e w' => e = .panicked [{ v := perr, recovered := false }] ∧ Kept b w w'
          clear hV hr hdr hdr1 hx
          go_enter Tryz.func289, Tryz.ntmps289
          go_wp2
          go_quiet (first | (go_at_call 210; exact Calls.quiet_of_same (kE _)))
          have h3 : RAt (w.drewN nq) b s k := h.drewN nq
          have hkp3 : Kept b w (w.drewN nq) := Kept.of_below (Below.drewN (Below.refl _ _) nq)
          clear q0 q1 q2 kE kx ky
          generalize w.drewN nq = wa at h3 hkp3 ⊢
          obtain ⟨q0, q1, q2⟩ := h3.cells
          go_wp2
          go_quiet (fail)
          have h4 : RAt (wa.drewN nq) b s k := h3.drewN nq
          have hkp4 : Kept b w (wa.drewN nq) := hkp3.trans (Kept.of_below (Below.drewN (Below.refl _ _) nq))
          clear q0 q1 q2
          generalize wa.drewN nq = wb at h4 hkp4 ⊢
          obtain ⟨q0, q1, q2⟩ := h4.cells
          have kx := fun n => Digit_any c (wb.drewN n)
          have ky := fun n => Digit_any d (wb.drewN n)
          rw [hX] at kx
          rw [hY] at ky
          go_wp2
          go_quiet (first | (go_at_call_of 294 (Value.int .u8 (c.toNat : Int)); exact Calls.quiet_of_same ((kx _).mono fun e w' hh => ⟨hh.1, hh.2.symm⟩)) | (go_at_call_of 294 (Value.int .u8 (d.toNat : Int)); exact Calls.quiet_of_same ((ky _).mono fun e w' hh => ⟨hh.1, hh.2.symm⟩)))
          go_wp2
          exact ⟨rfl, rfl, hkp4.trans (Kept.of_below (Below.drewN (Below.refl _ _) _))⟩
end Go.Proofs.YtegigcneimjimaaGreatDoor
