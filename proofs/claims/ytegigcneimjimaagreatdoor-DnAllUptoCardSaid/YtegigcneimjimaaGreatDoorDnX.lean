/- dn's reader: a value of digits. -/
import Derived.Test.YtegigcneimjimaaGreatDoorDnH
import Derived.Deep.RegionWith
namespace Go.Proofs.YtegigcneimjimaaGreatDoor
open Go.RowKit Go.Lib

theorem unhex_ne {T : List UInt8} (h : T.length % 2 = 0) (h0 : T ≠ []) : unhexL T ≠ [] := by
  match T, h, h0 with
  | [x], h, _ => simp at h
  | x :: y :: t, _, _ => simp [unhexL]
def HxRel (w : World) (b : Nat) (s r T D : List UInt8) (wr : World) : Prop :=
  ∃ k t, k ≤ s.length ∧ RAt wr b s k ∧ Kept b w wr ∧ r = t ++ s.drop k ∧ T = t ++ (s.drop k).takeWhile isHex ∧ D = (s.drop k).dropWhile isHex
set_option maxRecDepth 100000 in
set_option maxHeartbeats 2000000 in
theorem hex_any (b : Nat) (s r : List UInt8) (w : World) (h : Rd w b s (35 :: r)) (hs : s.length ≤ 1099511627776) :
    Calls Tryz.prog 288 #[.pointer (some ⟨b, 0, none⟩)] w fun e w' => (match rHex r with | some (v, r') => e = .returned (.string ⟨v.toArray⟩) ∧ Rd w' b s r' | none => e = .panicked [{ v := perr, recovered := false }]) ∧ Kept b w w' := by
  obtain ⟨K0, hK0, hrK0, hR0⟩ := h
  obtain ⟨hK, hrK⟩ := drop_lt hrK0
  obtain ⟨q0, q1, q2⟩ := hR0.cells
  unfold rHex
  obtain ⟨T, hT0⟩ : ∃ T, r.takeWhile isHex = T := ⟨_, rfl⟩
  obtain ⟨D, hD0⟩ : ∃ D, r.dropWhile isHex = D := ⟨_, rfl⟩
  have hall : ∀ c ∈ T, isHex c = true := by rw [← hT0]; intro c hc; exact mem_tw hc
  have hTl : T.length ≤ s.length := by
    have : r.length ≤ s.length := by rw [← hrK, List.length_drop]; omega
    rw [← hT0]
    exact Nat.le_trans (List.takeWhile_sublist _).length_le this
  rw [hT0, hD0]
  have HW := Lib.hid hall
  clear hall
  obtain ⟨PR, hPR⟩ : ∃ PR : Ending → World → Prop, PR = fun e w' => (match (if T.length % 2 = 0 ∧ T ≠ [] then some (unhexL T, D) else none) with | some (v, r') => e = .returned (.string ⟨v.toArray⟩) ∧ Rd w' b s r' | none => e = .panicked [{ v := perr, recovered := false }]) ∧ Kept b w w' := ⟨_, rfl⟩
  rw [← hPR]
  have HP := Lib.hid hPR
  clear hPR
  have h1 := hR0.set1
  have hkp1 := Kept.set b w 1 (.int .i64 ((K0 : Int) + 1))
  obtain ⟨K, hKe⟩ : ∃ K, K0 + 1 = K := ⟨_, rfl⟩
  have hKi : (K0 : Int) + 1 = (K : Int) := by omega
  rw [hKe] at h1 hrK
  rw [hKi] at h1 hkp1
  obtain ⟨p0, p1, p2⟩ := h1.cells
  go_enter Tryz.func288, Tryz.ntmps288
  go_wp2_with fail
  clear q0 q1 q2 p0 p1 p2
  go_loopw [] (fun wr => HxRel w b s r T D wr) (fun wr => s.length - posOf wr b)
  case atStart => exact ⟨K, [], by omega, h1, hkp1, by rw [hrK]; rfl, by rw [hrK, hT0]; rfl, by rw [hrK, hD0]⟩
  case round =>
    clear h1 hkp1
    obtain ⟨k, t, hk, h, hkp, hrt, htw, hdw⟩ := hrel
    have hpos := h.pos
    obtain ⟨u, hu⟩ : ∃ u, s.drop k = u := ⟨_, rfl⟩
    rw [hu] at hrt htw hdw
    have k1 := fun n => ended_any b k s (wr.drewN n) (h.drewN n)
    obtain ⟨q0, q1, q2⟩ := h.cells
    cases u with
    | nil =>
      have hkl : k = s.length := by have := congrArg List.length hu; simp at this; omega
      have e1 : decide (k = s.length) = true := decide_eq_true hkl
      rw [e1] at k1
      clear e1 hkl
      go_wp2
      go_quiet (first | (go_at_call 200; exact Calls.quiet_of (k1 _)))
      go_wp2
      have hT : T = t := by rw [htw]; simp
      have hD : D = s.drop k := by rw [hdw, hu]; simp
      have hkK : K + t.length = k := by have := congrArg List.length hrt; rw [← hrK, ← hu] at this; simp at this; omega
      have hex : (⟨s.toArray⟩ : ByteArray).extract K k = ⟨t.toArray⟩ := by rw [extract_mk, hrK, hrt, ← hkK]; simp
      have h2 : RAt (wr.drewN nq) b s k := h.drewN nq
      have hkp2 : Kept b w (wr.drewN nq) := hkp.trans (Kept.of_below (Below.drewN (Below.refl _ _) nq))
      clear q0 q1 q2 k1 htw hdw hrt hpos
      subst hT hD
      generalize wr.drewN nq = wd at h2 hkp2 ⊢
      obtain ⟨q0, q1, q2⟩ := h2.cells
      have i1 : (K : Int) ≤ (k : Int) := by omega
      have i2 : (k : Int) ≤ (s.length : Int) := by omega
      have h3 : RAt wd.drew b s k := h2
      have hkp3 : Kept b w wd.drew := hkp2
      have k2 := Unhex_any T wd.drew (by omega) HW.out
      by_cases hev : T.length % 2 = 0
      · rw [if_pos hev] at k2
        by_cases hT0 : T = []
        · subst hT0
          rw [show unhexL [] = [] from rfl] at k2
          go_region_with (go_at_call 295; refine Calls.mono (show Calls _ _ _ _ _ from k2) ?_; rintro e w1 ⟨rfl, hb1⟩)
          all_goals (
            go_wp2
            refine ⟨rfl, ?_⟩
            rw [HP.out]
            exact ⟨rfl, hkp3.trans (Kept.of_below hb1)⟩)
        · have hun := unhex_ne hev hT0
          obtain ⟨V, hV⟩ : ∃ V, unhexL T = V := ⟨_, rfl⟩
          rw [hV] at k2 hun
          have hVe : V.isEmpty = false := by cases V <;> simp_all
          have HV := Lib.hid hV
          clear hV
          go_region_with (go_at_call 295; refine Calls.mono (show Calls _ _ _ _ _ from k2) ?_; rintro e w1 ⟨rfl, hb1⟩)
          all_goals (
            go_wp2
            rw [HP.out]
            rw [if_pos ⟨hev, hT0⟩]
            exact ⟨⟨by rw [HV.out]; rfl, k, hk, (by first | rfl | exact hu), h3.below hb1⟩, hkp3.trans (Kept.of_below hb1)⟩)
      · rw [if_neg hev] at k2
        go_region_with (go_at_call 295; refine Calls.mono (show Calls _ _ _ _ _ from k2) ?_; rintro e w1 ⟨rfl, hb1⟩)
        all_goals (
          go_wp2
          refine ⟨rfl, ?_⟩
          rw [HP.out]
          rw [if_neg (fun hh => hev hh.1)]
          exact ⟨rfl, hkp3.trans (Kept.of_below hb1)⟩)
    | cons x u =>
      obtain ⟨hlt, hdr⟩ := drop_lt hu
      have e1 : decide (k = s.length) = false := decide_eq_false (by omega)
      rw [e1] at k1
      clear e1
      have hb := fun h' => byte_at hu h'
      have k4 := fun n => Digit_any x (wr.drewN n)
      obtain ⟨y, hy⟩ : ∃ y, isHex x = y := ⟨_, rfl⟩
      have hv : decide (0 ≤ hexD x) = y := hy
      obtain ⟨V, hV⟩ : ∃ V, hexD x = V := ⟨_, rfl⟩
      rw [hV] at k4 hv
      clear hV
      cases y
      · have hv2 : decide (V ≥ 0) = false := hv
        go_wp2
        go_quiet (first | (go_at_call 200; exact Calls.quiet_of (k1 _)) | (go_at_call 294; exact Calls.quiet_of_same ((k4 _).mono fun e w' hh => ⟨hh.1, hh.2.symm⟩)))
        go_wp2
        have hT : T = t := by rw [htw]; simp [hy]
        have hD : D = s.drop k := by rw [hdw, hu]; simp [hy]
        have hkK : K + t.length = k := by have := congrArg List.length hrt; rw [← hrK, ← hu] at this; simp at this; omega
        have hex : (⟨s.toArray⟩ : ByteArray).extract K k = ⟨t.toArray⟩ := by rw [extract_mk, hrK, hrt, ← hkK]; simp
        have h2 : RAt (wr.drewN nq) b s k := h.drewN nq
        have hkp2 : Kept b w (wr.drewN nq) := hkp.trans (Kept.of_below (Below.drewN (Below.refl _ _) nq))
        clear q0 q1 q2 k1 htw hdw hrt hpos
        subst hT hD
        generalize wr.drewN nq = wd at h2 hkp2 ⊢
        obtain ⟨q0, q1, q2⟩ := h2.cells
        have i1 : (K : Int) ≤ (k : Int) := by omega
        have i2 : (k : Int) ≤ (s.length : Int) := by omega
        have h3 : RAt wd.drew b s k := h2
        have hkp3 : Kept b w wd.drew := hkp2
        have k2 := Unhex_any T wd.drew (by omega) HW.out
        by_cases hev : T.length % 2 = 0
        · rw [if_pos hev] at k2
          by_cases hT0 : T = []
          · subst hT0
            rw [show unhexL [] = [] from rfl] at k2
            go_region_with (go_at_call 295; refine Calls.mono (show Calls _ _ _ _ _ from k2) ?_; rintro e w1 ⟨rfl, hb1⟩)
            all_goals (
              go_wp2
              refine ⟨rfl, ?_⟩
              rw [HP.out]
              exact ⟨rfl, hkp3.trans (Kept.of_below hb1)⟩)
          · have hun := unhex_ne hev hT0
            obtain ⟨V, hV⟩ : ∃ V, unhexL T = V := ⟨_, rfl⟩
            rw [hV] at k2 hun
            have hVe : V.isEmpty = false := by cases V <;> simp_all
            have HV := Lib.hid hV
            clear hV
            go_region_with (go_at_call 295; refine Calls.mono (show Calls _ _ _ _ _ from k2) ?_; rintro e w1 ⟨rfl, hb1⟩)
            all_goals (
              go_wp2
              rw [HP.out]
              rw [if_pos ⟨hev, hT0⟩]
              exact ⟨⟨by rw [HV.out]; rfl, k, hk, (by first | rfl | exact hu), h3.below hb1⟩, hkp3.trans (Kept.of_below hb1)⟩)
        · rw [if_neg hev] at k2
          go_region_with (go_at_call 295; refine Calls.mono (show Calls _ _ _ _ _ from k2) ?_; rintro e w1 ⟨rfl, hb1⟩)
          all_goals (
            go_wp2
            refine ⟨rfl, ?_⟩
            rw [HP.out]
            rw [if_neg (fun hh => hev hh.1)]
            exact ⟨rfl, hkp3.trans (Kept.of_below hb1)⟩)
      · have hv2 : decide (V ≥ 0) = true := hv
        go_wp2
        go_quiet (first | (go_at_call 200; exact Calls.quiet_of (k1 _)) | (go_at_call 294; exact Calls.quiet_of_same ((k4 _).mono fun e w' hh => ⟨hh.1, hh.2.symm⟩)))
        have h3 : RAt (wr.drewN nq) b s k := h.drewN nq
        have hkp3 : Kept b w (wr.drewN nq) := hkp.trans (Kept.of_below (Below.drewN (Below.refl _ _) nq))
        have hpos3 : posOf wr b = k := hpos
        clear q0 q1 q2 k1 k4
        generalize wr.drewN nq = w1 at h3 hkp3 ⊢
        obtain ⟨q0, q1, q2⟩ := h3.cells
        go_wp2
        go_roundw
        case rel => exact ⟨k + 1, t ++ [x], hlt, h3.set1, hkp3.trans (Kept.set b w1 1 _), by rw [hrt, hdr]; simp, by rw [htw, hdr, List.takeWhile_cons_of_pos hy]; simp, by rw [hdw, hdr, List.dropWhile_cons_of_pos hy]⟩
        case measure => rw [hpos3, h3.set1.pos]; omega
end Go.Proofs.YtegigcneimjimaaGreatDoor
