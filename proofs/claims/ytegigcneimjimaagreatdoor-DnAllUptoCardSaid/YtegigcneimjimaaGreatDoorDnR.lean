/- dn's reader: blanks, types. -/
import Derived.Test.YtegigcneimjimaaGreatDoorDnT
import Derived.StillTailTactics
namespace Go.Proofs.YtegigcneimjimaaGreatDoor
open Go.RowKit Go.Lib

def posOf (w : World) (b : Nat) : Nat := (RowKit.intOf ((w.cell? ⟨b, 1, none⟩).getD (.bool false))).toNat
theorem RAt.pos {w : World} {b k : Nat} {s : List UInt8} (h : RAt w b s k) : posOf w b = k := by
  unfold posOf
  rw [h.cells.2.1]
  simp [RowKit.intOf]
theorem RAt.set1 {w : World} {b k : Nat} {s : List UInt8} (h : RAt w b s k) : RAt (w.setCell ⟨b, 1, none⟩ (.int .i64 ((k : Int) + 1))) b s (k + 1) := h.set (k + 1)
theorem extract_mk (s : List UInt8) (a b : Nat) : (⟨s.toArray⟩ : ByteArray).extract a b = ⟨((s.drop a).take (b - a)).toArray⟩ := by
  apply ByteArray.ext
  simp [ByteArray.data_extract]
/-- A reader and what is left of its text. -/
def Rd (w : World) (b : Nat) (s r : List UInt8) : Prop := ∃ k, k ≤ s.length ∧ s.drop k = r ∧ RAt w b s k
def BlRel (w : World) (b : Nat) (s ANS : List UInt8) (wr : World) : Prop := ∃ k, k ≤ s.length ∧ RAt wr b s k ∧ Kept b w wr ∧ blanksB (s.drop k) = ANS
set_option maxRecDepth 100000 in
set_option maxHeartbeats 2000000 in
theorem blanks_any (b : Nat) (s r : List UInt8) (w : World) (h : Rd w b s r) (hs : s.length ≤ 1099511627776) :
    Calls Tryz.prog 275 #[.pointer (some ⟨b, 0, none⟩)] w fun e w' => e = .returned (.tuple #[]) ∧ (Rd w' b s (blanksB r) ∧ Kept b w w') := by
  obtain ⟨k, hk, rfl, h⟩ := h
  obtain ⟨ANS, hA⟩ : ∃ ANS, blanksB (s.drop k) = ANS := ⟨_, rfl⟩
  rw [hA]
  have HA := Lib.hid hA
  clear hA
  go_enter Tryz.func275, Tryz.ntmps275
  go_wp2_with fail
  go_loopw [] (fun wr => BlRel w b s ANS wr) (fun wr => s.length - posOf wr b)
  case atStart => exact ⟨k, hk, h, Kept.refl _ _, HA.out⟩
  case round =>
    clear HA h hk
    obtain ⟨k, hk, h, hkp, hans⟩ := hrel
    obtain ⟨r, hr⟩ : ∃ r, s.drop k = r := ⟨_, rfl⟩
    have k1 := is_any b k s r 32 wr h hk hr
    rw [hr] at hans
    have hpos := h.pos
    cases r with
    | nil =>
      have e : ANS = [] := by rw [← hans]; rfl
      subst e
      go_wp2_with (go_at_call 199; refine Calls.mono (show Calls _ _ _ _ _ from k1) ?_; rintro e w1 ⟨rfl, m, hw1⟩)
      go_end0
      exact ⟨rfl, ⟨k, hk, hr, h.drewN m⟩, hkp.trans (Kept.of_below (Below.drewN (Below.refl _ _) m))⟩
    | cons x t =>
      obtain ⟨hlt, hdr⟩ := drop_lt hr
      by_cases hx : x = 32
      · subst hx
        have e : blanksB (s.drop (k + 1)) = ANS := by rw [hdr, ← hans]; rfl
        have HE := Lib.hid e
        clear e hans
        rw [show headIs (32 :: t) 32 = true from rfl] at k1
        go_wp2_with (go_at_call 199; refine Calls.mono (show Calls _ _ _ _ _ from k1) ?_; rintro e w1 ⟨rfl, m, hw1⟩; have h1 : RAt w1 b s k := (by rw [hw1]; exact h.drewN m); have hkp1 : Kept b w w1 := (by rw [hw1]; exact hkp.trans (Kept.of_below (Below.drewN (Below.refl _ _) m))); obtain ⟨q0, q1, q2⟩ := h1.cells; clear hw1)
        go_roundw
        case rel => exact ⟨k + 1, hlt, h1.set1, hkp1.trans (Kept.set b w1 1 _), HE.out⟩
        case measure => rw [hpos, h1.set1.pos]; omega
      · have e : ANS = x :: t := by rw [← hans]; unfold blanksB; rw [List.dropWhile_cons_of_neg (by simpa using hx)]
        subst e
        rw [show headIs (x :: t) 32 = false from by simpa [headIs] using hx] at k1
        go_wp2_with (go_at_call 199; refine Calls.mono (show Calls _ _ _ _ _ from k1) ?_; rintro e w1 ⟨rfl, m, hw1⟩)
        go_end0
        exact ⟨rfl, ⟨k, hk, hr, h.drewN m⟩, hkp.trans (Kept.of_below (Below.drewN (Below.refl _ _) m))⟩
def TRel (w : World) (b : Nat) (s r T D : List UInt8) (wr : World) : Prop :=
  ∃ k t, k ≤ s.length ∧ RAt wr b s k ∧ Kept b w wr ∧ r = t ++ s.drop k ∧ T = t ++ (s.drop k).takeWhile inTyB ∧ D = (s.drop k).dropWhile inTyB
theorem Clone_l (s : List UInt8) (w : World) (hs : s.length ≤ 1099511627776) :
    Calls Tryz.prog 145 #[.string ⟨s.toArray⟩] w fun e w' => e = .returned (.string ⟨s.toArray⟩) ∧ Below w.heap.size w w' := by
  have k1 := Tryz.stringslite_Clone ⟨s.toArray⟩ w (by rw [Lib.size_mk]; omega)
  go_enter Tryz.func145, Tryz.ntmps145
  go_wp2_with (go_at_call 230; refine k1.mono ?_; rintro e w1 ⟨rfl, hb1⟩)
  go_ret
  exact ⟨rfl, hb1⟩
def perr : Value := .iface 48 (.int .i64 30)
set_option maxRecDepth 100000 in
set_option maxHeartbeats 2000000 in
theorem typ_any (b : Nat) (s r : List UInt8) (w : World) (h : Rd w b s r) (hs : s.length ≤ 1099511627776) (_hE : Env w) (hEk : ∀ w', Kept b w w' → Env w') :
    Calls Tryz.prog 276 #[.pointer (some ⟨b, 0, none⟩)] w fun e w' => (if isTyB (r.takeWhile inTyB) then e = .returned (.string ⟨(r.takeWhile inTyB).toArray⟩) ∧ Rd w' b s (r.dropWhile inTyB) else e = .panicked [{ v := perr, recovered := false }]) ∧ Kept b w w' := by
  obtain ⟨K, hK, hrK, hR⟩ := h
  obtain ⟨q0, q1, q2⟩ := hR.cells
  obtain ⟨T, hT0⟩ : ∃ T, r.takeWhile inTyB = T := ⟨_, rfl⟩
  obtain ⟨D, hD0⟩ : ∃ D, r.dropWhile inTyB = D := ⟨_, rfl⟩
  rw [hT0, hD0]
  obtain ⟨p, hp⟩ : ∃ p, isTyB T = p := ⟨_, rfl⟩
  rw [hp]
  go_enter Tryz.func276, Tryz.ntmps276
  go_wp2_with fail
  clear q0 q1 q2
  go_loopw [] (fun wr => TRel w b s r T D wr) (fun wr => s.length - posOf wr b)
  case atStart => exact ⟨K, [], hK, hR, Kept.refl _ _, by rw [hrK]; rfl, by rw [hrK, hT0]; rfl, by rw [hrK, hD0]⟩
  case round =>
    obtain ⟨k, t, hk, h, hkp, hrt, htw, hdw⟩ := hrel
    have hpos := h.pos
    obtain ⟨u, hu⟩ : ∃ u, s.drop k = u := ⟨_, rfl⟩
    rw [hu] at hrt htw hdw
    have k1 := fun n => ended_any b k s (wr.drewN n) (h.drewN n)
    obtain ⟨q0, q1, q2⟩ := h.cells
    cases u with
    | nil =>
      have hkl : k = s.length := by have := congrArg List.length hu; simp at this; omega
      have e1 : decide (k = s.length) = true := decide_eq_true hkl
      rw [e1] at k1
      clear e1 hkl
      go_wp2
      go_quiet (first | (go_at_call 200; exact Calls.quiet_of (k1 _)))
      go_wp2
      have hT : T = t := by rw [htw]; simp
      have hD : D = s.drop k := by rw [hdw, hu]; simp
      have hkK : K + t.length = k := by have := congrArg List.length hrt; rw [← hrK, ← hu] at this; simp at this; omega
      have hex : (⟨s.toArray⟩ : ByteArray).extract K k = ⟨t.toArray⟩ := by rw [extract_mk, hrK, hrt, ← hkK]; simp
      have h2 : RAt (wr.drewN nq) b s k := h.drewN nq
      have hkp2 : Kept b w (wr.drewN nq) := hkp.trans (Kept.of_below (Below.drewN (Below.refl _ _) nq))
      clear q0 q1 q2 k1 htw hdw hrt hpos
      subst hT hD
      generalize wr.drewN nq = wd at h2 hkp2 ⊢
      obtain ⟨q0, q1, q2⟩ := h2.cells
      have i1 : (K : Int) ≤ (k : Int) := by omega
      have i2 : (k : Int) ≤ (s.length : Int) := by omega
      go_still_tail 10, (by kernel_rfl)
      change wpList _ _ _ _ _ wd.drew
      have h3 : RAt wd.drew b s k := h2
      have hkp3 : Kept b w wd.drew := hkp2
      generalize wd.drew = we at h3 hkp3 ⊢
      clear q0 q1 q2 h2 hkp2
      have k2 := IsType_any T we (by omega) (hEk we hkp3)
      rw [hp] at k2
      cases p
      · go_wp2_with (go_at_call 114; refine Calls.mono (show Calls _ _ _ _ _ from k2) ?_; rintro e w1 ⟨rfl, hb1⟩)
        exact ⟨rfl, rfl, hkp3.trans (Kept.of_below hb1)⟩
      · go_wp2_with (go_at_call 114; refine Calls.mono (show Calls _ _ _ _ _ from k2) ?_; rintro e w1 ⟨rfl, hb1⟩)
        have h4 := h3.below hb1
        have hkp4 := hkp3.trans (Kept.of_below (b := b) hb1)
        obtain ⟨q0, q1, q2⟩ := h4.cells
        go_still_tail 10, (by kernel_rfl)
        change wpList _ _ _ _ _ w1.drew
        have h5 : RAt w1.drew b s k := h4
        have hkp5 : Kept b w w1.drew := hkp4
        generalize w1.drew = wf at h5 hkp5 ⊢
        clear q0 q1 q2
        have k3 := Clone_l T wf (by omega)
        go_wp2_with (go_at_call 145; refine Calls.mono (show Calls _ _ _ _ _ from k3) ?_; rintro e w2 ⟨rfl, hb2⟩)
        go_ret
        exact ⟨⟨rfl, k, hk, hu, h5.below hb2⟩, hkp5.trans (Kept.of_below hb2)⟩
    | cons x u =>
      obtain ⟨hlt, hdr⟩ := drop_lt hu
      have e1 : decide (k = s.length) = false := decide_eq_false (by omega)
      rw [e1] at k1
      clear e1
      have hb := fun h' => byte_at hu h'
      have k4 := fun n => inType_any x (wr.drewN n)
      obtain ⟨y, hy⟩ : ∃ y, inTyB x = y := ⟨_, rfl⟩
      rw [hy] at k4
      cases y
      · go_wp2
        go_quiet (first | (go_at_call 200; exact Calls.quiet_of (k1 _)) | (go_at_call 197; exact Calls.quiet_of_same ((k4 _).mono fun e w' hh => ⟨hh.1, hh.2.symm⟩)))
        go_wp2
        have hT : T = t := by rw [htw]; simp [hy]
        have hD : D = s.drop k := by rw [hdw, hu]; simp [hy]
        have hkK : K + t.length = k := by have := congrArg List.length hrt; rw [← hrK, ← hu] at this; simp at this; omega
        have hex : (⟨s.toArray⟩ : ByteArray).extract K k = ⟨t.toArray⟩ := by rw [extract_mk, hrK, hrt, ← hkK]; simp
        have h2 : RAt (wr.drewN nq) b s k := h.drewN nq
        have hkp2 : Kept b w (wr.drewN nq) := hkp.trans (Kept.of_below (Below.drewN (Below.refl _ _) nq))
        clear q0 q1 q2 k1 htw hdw hrt hpos
        subst hT hD
        generalize wr.drewN nq = wd at h2 hkp2 ⊢
        obtain ⟨q0, q1, q2⟩ := h2.cells
        have i1 : (K : Int) ≤ (k : Int) := by omega
        have i2 : (k : Int) ≤ (s.length : Int) := by omega
        go_still_tail 10, (by kernel_rfl)
        change wpList _ _ _ _ _ wd.drew
        have h3 : RAt wd.drew b s k := h2
        have hkp3 : Kept b w wd.drew := hkp2
        generalize wd.drew = we at h3 hkp3 ⊢
        clear q0 q1 q2 h2 hkp2
        have k2 := IsType_any T we (by omega) (hEk we hkp3)
        rw [hp] at k2
        cases p
        · go_wp2_with (go_at_call 114; refine Calls.mono (show Calls _ _ _ _ _ from k2) ?_; rintro e w1 ⟨rfl, hb1⟩)
          exact ⟨rfl, rfl, hkp3.trans (Kept.of_below hb1)⟩
        · go_wp2_with (go_at_call 114; refine Calls.mono (show Calls _ _ _ _ _ from k2) ?_; rintro e w1 ⟨rfl, hb1⟩)
          have h4 := h3.below hb1
          have hkp4 := hkp3.trans (Kept.of_below (b := b) hb1)
          obtain ⟨q0, q1, q2⟩ := h4.cells
          go_still_tail 10, (by kernel_rfl)
          change wpList _ _ _ _ _ w1.drew
          have h5 : RAt w1.drew b s k := h4
          have hkp5 : Kept b w w1.drew := hkp4
          generalize w1.drew = wf at h5 hkp5 ⊢
          clear q0 q1 q2
          have k3 := Clone_l T wf (by omega)
          go_wp2_with (go_at_call 145; refine Calls.mono (show Calls _ _ _ _ _ from k3) ?_; rintro e w2 ⟨rfl, hb2⟩)
          go_ret
          exact ⟨⟨rfl, k, hk, hu, h5.below hb2⟩, hkp5.trans (Kept.of_below hb2)⟩
      · have h2 := h
        go_wp2
        go_quiet (first | (go_at_call 200; exact Calls.quiet_of (k1 _)) | (go_at_call 197; exact Calls.quiet_of_same ((k4 _).mono fun e w' hh => ⟨hh.1, hh.2.symm⟩)))
        have h3 : RAt (wr.drewN nq) b s k := h.drewN nq
        have hkp3 : Kept b w (wr.drewN nq) := hkp.trans (Kept.of_below (Below.drewN (Below.refl _ _) nq))
        have hpos3 : posOf wr b = k := hpos
        clear q0 q1 q2 k1 k4
        generalize wr.drewN nq = w1 at h3 hkp3 ⊢
        obtain ⟨q0, q1, q2⟩ := h3.cells
        go_wp2
        go_roundw
        case rel => exact ⟨k + 1, t ++ [x], hlt, h3.set1, hkp3.trans (Kept.set b w1 1 _), by rw [hrt, hdr]; simp, by rw [htw, hdr, List.takeWhile_cons_of_pos hy]; simp, by rw [hdw, hdr, List.dropWhile_cons_of_pos hy]⟩
        case measure => rw [hpos3, h3.set1.pos]; omega
end Go.Proofs.YtegigcneimjimaaGreatDoor
