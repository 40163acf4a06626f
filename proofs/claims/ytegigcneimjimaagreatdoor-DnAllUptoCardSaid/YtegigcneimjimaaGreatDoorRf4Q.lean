/- chanceryref4's desk: a pair whose value is no row of digits; a pair. -/
import Derived.Test.YtegigcneimjimaaGreatDoorRf4P
namespace Go.Proofs.YtegigcneimjimaaGreatDoor
open Go.RowKit Go.Lib

set_option maxRecDepth 100000 in
set_option maxHeartbeats 16000000 in
theorem dpair_v (b : Nat) (s r : List UInt8) (w : World) (h : Dd w b s r) (hs : s.length ≤ 1099511627776) (hV : ∃ r3, blanksB ((blanksB r).dropWhile inTyB) = 61 :: r3 ∧ headIs (blanksB r3) 35 = false) :
    Calls Tryz.prog 204 #[.pointer (some ⟨b, 0, none⟩)] w (PairPost w b s (refPair r)) := by
  have hlb := h.lt
  have HHY := Lib.hid hV
  clear hV
  obtain ⟨ANS, hA⟩ : ∃ ANS, refPair r = ANS := ⟨_, rfl⟩
  rw [hA]
  have HA := Lib.hid hA
  clear hA
  have hkA : Kept b w (w.alloc (.cells #[.string ⟨#[]⟩, .string ⟨#[]⟩] 146)) := (Kept.refl b w).alloc _
  have hrA : Dd (w.alloc (.cells #[.string ⟨#[]⟩, .string ⟨#[]⟩] 146)) b s r := h.below ((Below.refl _ _).alloc (Nat.le_refl _) _)
  have hBA : Two (w.alloc (.cells #[.string ⟨#[]⟩, .string ⟨#[]⟩] 146)) w.heap.size [] [] := alloc_at _ _ _ rfl
  have hsA : w.heap.size < (w.alloc (.cells #[.string ⟨#[]⟩, .string ⟨#[]⟩] 146)).heap.size := by simp
  go_enter Tryz.func204, Tryz.ntmps204
  go_upto_region 1 with fail
  generalize w.alloc (.cells #[.string ⟨#[]⟩, .string ⟨#[]⟩] 146) = wA at hkA hrA hBA hsA ⊢
  go_upto_region 2 with (go_at_call 251; refine Calls.mono (show Calls _ _ _ _ _ from dblanks_any b s r wA hrA hs) ?_; rintro e w1 ⟨rfl, hr1, hk1⟩)
  have hkw1 := hkA.trans hk1
  have hB1 : Two w1 w.heap.size [] [] := hk1.block hBA (by omega)
  have hs1 : w.heap.size < w1.heap.size := Nat.lt_of_lt_of_le hsA hk1.2.2.2.1
  clear hk1 hrA hBA hsA hkA
  obtain ⟨r1, hr1e⟩ : ∃ r1, blanksB r = r1 := ⟨_, rfl⟩
  rw [hr1e] at hr1
  obtain ⟨K, hK, hrK, hR⟩ := hr1
  obtain ⟨T, hT0⟩ : ∃ T, r1.takeWhile inTyB = T := ⟨_, rfl⟩
  obtain ⟨D, hD0⟩ : ∃ D, r1.dropWhile inTyB = D := ⟨_, rfl⟩
  have HE := Lib.hid hr1e
  have HT := Lib.hid hT0
  have HD := Lib.hid hD0
  have HK := Lib.hid hrK
  clear hr1e hT0 hD0 hrK
  obtain ⟨q0, q1, q2⟩ := hR.cells
  go_upto_block 0 with fail
  clear q0 q1 q2
  go_cut [] from 18 to 82 (fun wx => TEndD w1 b s r1 T D wx)
  case first =>
    -- L1
    go_wp2_with fail
    go_loopw [] (fun wr => TRelD w1 b s r1 T D wr) (fun wr => s.length - posOf wr b)
    case atStart => exact ⟨K, [], hK, hR, Kept.refl _ _, by rw [HK.out]; rfl, by rw [HK.out, HT.out]; rfl, by rw [HK.out, HD.out]⟩
    case round =>
      obtain ⟨k, t, hk, h, hkp, hrt, htw, hdw⟩ := hrel
      have hpos := h.pos
      obtain ⟨u, hu⟩ : ∃ u, s.drop k = u := ⟨_, rfl⟩
      rw [hu] at hrt htw hdw
      obtain ⟨q0, q1, q2⟩ := h.cells
      cases u with
      | nil =>
        have hkl : k = s.length := by have := congrArg List.length hu; simp at this; omega
        have e1 : ¬ k < s.length := by omega
        have e3 : decide (k < s.length) = false := decide_eq_false e1
        have hT : T = t := by rw [htw]; simp
        have hD : D = [] := by rw [hdw]; rfl
        have HU := Lib.hid hu
        have HR := Lib.hid hrt
        clear hu htw hdw hrt hkl hpos
        subst hT hD
        go_wp2
        go_quiet (fail)
        go_wp2
        go_meet
        exact ⟨k, hk, h.drewN _, hkp.trans (Kept.of_below (Below.drewN (Below.refl _ _) _)), by rw [HU.out]; exact HR.out, HU.out⟩
      | cons x u =>
        obtain ⟨hlt, hdr⟩ := drop_lt hu
        have e1 : decide ((k : Int) < (s.length : Int)) = true := decide_eq_true (by omega)
        have e2 : (k : Int) < (s.length : Int) := by omega
        have hb := fun h' => byte_at hu h'
        have kl := fun n => rletter_any x (wr.drewN n)
        have kd := fun n => rdigit_any x (wr.drewN n)
        have x45 : ((x.toNat : Int) == 45) = (x == 45) := (beq_nat _ 45).trans (u8_beq x 45 (by decide)).symm
        have x46 : ((x.toNat : Int) == 46) = (x == 46) := (beq_nat _ 46).trans (u8_beq x 46 (by decide)).symm
        have hin : inTyB x = (letB x || digB x || x == 45 || x == 46) := rfl
        generalize letB x = pl at kl hin
        generalize digB x = pd at kd hin
        generalize (x == 45) = p5 at x45 hin
        generalize (x == 46) = p6 at x46 hin
        cases pl
        · cases pd
          · cases p5
            · cases p6
              · have hy : inTyB x = false := by rw [hin]; rfl
                have hT : T = t := by rw [htw, List.takeWhile_cons_of_neg (by simp [hy])]; simp
                have hD : D = x :: u := by rw [hdw, List.dropWhile_cons_of_neg (by simp [hy])]
                have HU := Lib.hid hu
                have HR := Lib.hid hrt
                clear hu htw hdw hrt hpos hin hy hdr
                subst hT hD
                go_wp2
                go_quiet (first | (go_at_call 213; exact Calls.quiet_of_same ((kl _).mono fun e w' hh => ⟨hh.1, hh.2.symm⟩)) | (go_at_call 214; exact Calls.quiet_of_same ((kd _).mono fun e w' hh => ⟨hh.1, hh.2.symm⟩)))
                go_wp2
                go_meet
                exact ⟨k, hk, h.drewN _, hkp.trans (Kept.of_below (Below.drewN (Below.refl _ _) _)), by rw [HU.out]; exact HR.out, HU.out⟩
              · have hy : inTyB x = true := by rw [hin]; rfl
                have hT : T = (t ++ [x]) ++ (s.drop (k + 1)).takeWhile inTyB := by rw [htw, hdr, List.takeWhile_cons_of_pos hy]; simp
                have hD : D = (s.drop (k + 1)).dropWhile inTyB := by rw [hdw, hdr, List.dropWhile_cons_of_pos hy]
                have hr2 : r1 = (t ++ [x]) ++ s.drop (k + 1) := by rw [hrt, hdr]; simp
                have G1 := Lib.hid hT
                have G2 := Lib.hid hD
                have G3 := Lib.hid hr2
                clear hT hD hr2 htw hdw hrt hin hy hu hdr
                go_wp2
                go_quiet (first | (go_at_call 213; exact Calls.quiet_of_same ((kl _).mono fun e w' hh => ⟨hh.1, hh.2.symm⟩)) | (go_at_call 214; exact Calls.quiet_of_same ((kd _).mono fun e w' hh => ⟨hh.1, hh.2.symm⟩)))
                have h1 : DAt (wr.drewN nq) b s k := h.drewN nq
                have hkp1 : Kept b w1 (wr.drewN nq) := hkp.trans (Kept.of_below (Below.drewN (Below.refl _ _) nq))
                clear q0 q1 q2 kl kd
                generalize wr.drewN nq = w2 at h1 hkp1 ⊢
                obtain ⟨q0, q1, q2⟩ := h1.cells
                go_wp2
                go_roundw
                case rel => exact ⟨k + 1, t ++ [x], hlt, h1.set1, hkp1.trans (Kept.set b w2 1 _), G3.out, G1.out, G2.out⟩
                case measure => rw [hpos, h1.set1.pos]; omega
            · have hy : inTyB x = true := by rw [hin]; rfl
              have hT : T = (t ++ [x]) ++ (s.drop (k + 1)).takeWhile inTyB := by rw [htw, hdr, List.takeWhile_cons_of_pos hy]; simp
              have hD : D = (s.drop (k + 1)).dropWhile inTyB := by rw [hdw, hdr, List.dropWhile_cons_of_pos hy]
              have hr2 : r1 = (t ++ [x]) ++ s.drop (k + 1) := by rw [hrt, hdr]; simp
              have G1 := Lib.hid hT
              have G2 := Lib.hid hD
              have G3 := Lib.hid hr2
              clear hT hD hr2 htw hdw hrt hin hy hu hdr
              go_wp2
              go_quiet (first | (go_at_call 213; exact Calls.quiet_of_same ((kl _).mono fun e w' hh => ⟨hh.1, hh.2.symm⟩)) | (go_at_call 214; exact Calls.quiet_of_same ((kd _).mono fun e w' hh => ⟨hh.1, hh.2.symm⟩)))
              have h1 : DAt (wr.drewN nq) b s k := h.drewN nq
              have hkp1 : Kept b w1 (wr.drewN nq) := hkp.trans (Kept.of_below (Below.drewN (Below.refl _ _) nq))
              clear q0 q1 q2 kl kd
              generalize wr.drewN nq = w2 at h1 hkp1 ⊢
              obtain ⟨q0, q1, q2⟩ := h1.cells
              go_wp2
              go_roundw
              case rel => exact ⟨k + 1, t ++ [x], hlt, h1.set1, hkp1.trans (Kept.set b w2 1 _), G3.out, G1.out, G2.out⟩
              case measure => rw [hpos, h1.set1.pos]; omega
          · have hy : inTyB x = true := by rw [hin]; rfl
            have hT : T = (t ++ [x]) ++ (s.drop (k + 1)).takeWhile inTyB := by rw [htw, hdr, List.takeWhile_cons_of_pos hy]; simp
            have hD : D = (s.drop (k + 1)).dropWhile inTyB := by rw [hdw, hdr, List.dropWhile_cons_of_pos hy]
            have hr2 : r1 = (t ++ [x]) ++ s.drop (k + 1) := by rw [hrt, hdr]; simp
            have G1 := Lib.hid hT
            have G2 := Lib.hid hD
            have G3 := Lib.hid hr2
            clear hT hD hr2 htw hdw hrt hin hy hu hdr
            go_wp2
            go_quiet (first | (go_at_call 213; exact Calls.quiet_of_same ((kl _).mono fun e w' hh => ⟨hh.1, hh.2.symm⟩)) | (go_at_call 214; exact Calls.quiet_of_same ((kd _).mono fun e w' hh => ⟨hh.1, hh.2.symm⟩)))
            have h1 : DAt (wr.drewN nq) b s k := h.drewN nq
            have hkp1 : Kept b w1 (wr.drewN nq) := hkp.trans (Kept.of_below (Below.drewN (Below.refl _ _) nq))
            clear q0 q1 q2 kl kd
            generalize wr.drewN nq = w2 at h1 hkp1 ⊢
            obtain ⟨q0, q1, q2⟩ := h1.cells
            go_wp2
            go_roundw
            case rel => exact ⟨k + 1, t ++ [x], hlt, h1.set1, hkp1.trans (Kept.set b w2 1 _), G3.out, G1.out, G2.out⟩
            case measure => rw [hpos, h1.set1.pos]; omega
        · have hy : inTyB x = true := by rw [hin]; rfl
          have hT : T = (t ++ [x]) ++ (s.drop (k + 1)).takeWhile inTyB := by rw [htw, hdr, List.takeWhile_cons_of_pos hy]; simp
          have hD : D = (s.drop (k + 1)).dropWhile inTyB := by rw [hdw, hdr, List.dropWhile_cons_of_pos hy]
          have hr2 : r1 = (t ++ [x]) ++ s.drop (k + 1) := by rw [hrt, hdr]; simp
          have G1 := Lib.hid hT
          have G2 := Lib.hid hD
          have G3 := Lib.hid hr2
          clear hT hD hr2 htw hdw hrt hin hy hu hdr
          go_wp2
          go_quiet (first | (go_at_call 213; exact Calls.quiet_of_same ((kl _).mono fun e w' hh => ⟨hh.1, hh.2.symm⟩)) | (go_at_call 214; exact Calls.quiet_of_same ((kd _).mono fun e w' hh => ⟨hh.1, hh.2.symm⟩)))
          have h1 : DAt (wr.drewN nq) b s k := h.drewN nq
          have hkp1 : Kept b w1 (wr.drewN nq) := hkp.trans (Kept.of_below (Below.drewN (Below.refl _ _) nq))
          clear q0 q1 q2 kl kd
          generalize wr.drewN nq = w2 at h1 hkp1 ⊢
          obtain ⟨q0, q1, q2⟩ := h1.cells
          go_wp2
          go_roundw
          case rel => exact ⟨k + 1, t ++ [x], hlt, h1.set1, hkp1.trans (Kept.set b w2 1 _), G3.out, G1.out, G2.out⟩
          case measure => rw [hpos, h1.set1.pos]; omega
    -- L1 end
  case rest =>
    obtain ⟨k, hk, h, hkp, hrt, hdr⟩ := hcut
    have hkK : K + T.length = k := by have := congrArg List.length hrt; rw [← HK.out] at this; simp at this; omega
    have hex : (⟨s.toArray⟩ : ByteArray).extract K k = ⟨T.toArray⟩ := by rw [extract_mk, HK.out, hrt, ← hkK]; simp
    have hkw := hkw1.trans hkp
    have hB : Two wc w.heap.size [] [] := hkp.block hB1 (by omega)
    have hsc : w.heap.size < wc.heap.size := Nat.lt_of_lt_of_le hs1 hkp.2.2.2.1
    have i1 : (K : Int) ≤ (k : Int) := by omega
    have i2 : (k : Int) ≤ (s.length : Int) := by omega
    obtain ⟨q0, q1, q2⟩ := h.cells
    have HDR := Lib.hid hdr
    clear hrt hdr hkK hkp hR hB1 hkw1 hs1
    go_upto_region 5 with fail
    go_cut [5] from 83 to 93 (fun s5 wx => ∃ g, s5 = .pointer (some ⟨g, 0, none⟩) ∧ Lies w b s k g T [] w.heap.size wx)
    case first =>
      have hbA := (Below.refl wc.heap.size wc).alloc (Nat.le_refl _) (.cells #[.string ⟨#[]⟩, .string ⟨#[]⟩] 146)
      have hDA := h.below hbA
      obtain ⟨p0, p1, p2⟩ := hDA.cells
      go_region
      all_goals
        go_wp2_with fail
        go_meet
        have hb2 := Below.drew ((Below.refl wc.heap.size wc).alloc (Nat.le_refl _) (.cells #[.string ⟨T.toArray⟩, .string ⟨#[]⟩] 146))
        exact ⟨wc.heap.size, rfl, h.below hb2, hkw.trans (Kept.of_below hb2), alloc_at _ _ _ rfl, (hb2.block _ hsc).trans hB, hsc⟩
    case rest =>
      clear q0 q1 q2 h hkw hB hsc hex i1 i2
      obtain ⟨g, rfl, h, hkw, hC, hB, hlt⟩ := hcut
      have hgb : b < g := by omega
      go_upto_region 7 with (go_at_call 251; refine Calls.mono (show Calls _ _ _ _ _ from dblanks_any b s D _ ⟨k, hk, HDR.out, h⟩ hs) ?_; rintro e w2 ⟨rfl, hr2, hk2⟩)
      have hkw2 := hkw.trans hk2
      have hC2 : Two w2 g T [] := hk2.block hC (by omega)
      have hB2 : Two w2 w.heap.size [] [] := hk2.block hB (by omega)
      clear h hkw hC hB hk2
      obtain ⟨z, hz⟩ : ∃ z, blanksB D = z := ⟨_, rfl⟩
      rw [hz] at hr2
      have hz2 : blanksB ((blanksB r).dropWhile inTyB) = z := by rw [HE.out, HD.out]; exact hz
      have HZ := Lib.hid hz2
      obtain ⟨k2, hk2, hdr2, h2⟩ := hr2
      have hTl : T.length ≤ 1099511627776 := by
        have h1 := tw_len inTyB r1
        have h2 := congrArg List.length HK.out
        rw [HT.out] at h1
        rw [List.length_drop] at h2
        omega
      obtain ⟨V0, hV0⟩ : ∃ V0 : List UInt8, V0 = [] := ⟨_, rfl⟩
      rw [← hV0] at hC2
      have HV0 := Lib.hid hV0
      clear hV0 hz hz2
      obtain ⟨q0, q1, q2, q3⟩ := hC2.cells
      have kt := RIsType_any T w2 hTl
      cases hty : isTyB T with
      | false =>
        rw [hty] at kt
        have hans : ANS = none := by rw [← HA.out]; exact refPair_a (by rw [HE.out, HT.out]; exact hty)
        obtain ⟨p0, p1, p2, p3⟩ := hB2.cells
        have hans2 := Lib.hid hans
        clear hans hty
        go_wp2_with (go_at_call 128; refine Calls.mono (show Calls _ _ _ _ _ from kt) ?_; rintro e w3 ⟨rfl, rfl⟩)
        obtain ⟨hB9, hk9⟩ := ret_two hB2 hkw2 (Nat.le_refl _) T V0
        clear q0 q1 q2 q3 p0 p1 p2 p3
        generalize (w2.setCell ⟨w.heap.size, 0, none⟩ (.string ⟨T.toArray⟩)).setCell ⟨w.heap.size, 1, none⟩ (.string ⟨V0.toArray⟩) = w9 at hB9 hk9 ⊢
        obtain ⟨y0, y1, _, _⟩ := hB9.cells
        refine bodyPost_ret (v := .tuple #[.agg #[.string ⟨T.toArray⟩, .string ⟨V0.toArray⟩], .bool false]) (by simp [results, Tryz.results204, go_sem, y0, y1]) rfl ?_
        rw [hans2.out]
        exact ⟨⟨T, V0, rfl⟩, hk9⟩
      | true =>
        rw [hty] at kt
        have hty2 : isTyB ((blanksB r).takeWhile inTyB) = true := by rw [HE.out, HT.out]; exact hty
        have ki := dis_any b k2 s z 61 w2 h2 hk2 hdr2
        clear hty
        cases h61 : headIs z 61 with
        | false =>
          exfalso
          obtain ⟨r9, h1, h2⟩ := HHY.out
          rw [HZ.out] at h1
          subst h1
          simp [headIs] at h61
        | true =>
          rw [h61] at ki
          obtain ⟨r3, rfl⟩ := head_cons h61
          have hrp := refPair_c hty2 HZ.out
          rw [HA.out, HE.out, HT.out] at hrp
          obtain ⟨hlt2, hdr3⟩ := drop_lt hdr2
          clear h61 hty2
          go_upto_region 9 with (first | (go_at_call 128; refine Calls.mono (show Calls _ _ _ _ _ from kt) ?_; rintro e w3 ⟨rfl, rfl⟩) | (go_at_call 205; refine Calls.mono (show Calls _ _ _ _ _ from ki) ?_; rintro e w3 ⟨rfl, m, hw3⟩; have hkw3 : Kept b w w3 := (by rw [hw3]; exact hkw2.trans (Kept.of_below (Below.drewN (Below.refl _ _) m))); have hC3 : Two w3 g T V0 := (by rw [hw3]; exact hC2); have hB3 : Two w3 w.heap.size [] [] := (by rw [hw3]; exact hB2); have h3 : DAt w3 b s k2 := (by rw [hw3]; exact h2); clear hw3))
          clear q0 q1 q2 q3 kt ki hC2 hB2 h2 hkw2
          obtain ⟨q0, q1, q2⟩ := h3.cells
          go_upto_region 10 with fail
          have h4 := h3.set1
          have hkw4 := hkw3.trans (Kept.set b w3 1 (.int .i64 ((k2 : Int) + 1)))
          have hB4 := hB3.other (g' := b) (i := 1) (.int .i64 ((k2 : Int) + 1)) (by omega)
          have hC4 := hC3.other (g' := b) (i := 1) (.int .i64 ((k2 : Int) + 1)) (by omega)
          generalize w3.setCell ⟨b, 1, none⟩ (.int .i64 ((k2 : Int) + 1)) = w4 at h4 hkw4 hB4 hC4 ⊢
          clear q0 q1 q2 hB3 hC3 h3 hkw3
          go_upto_region 11 with (go_at_call 251; refine Calls.mono (show Calls _ _ _ _ _ from dblanks_any b s r3 w4 ⟨k2 + 1, hlt2, hdr3, h4⟩ hs) ?_; rintro e w5 ⟨rfl, hr5, hk5⟩)
          have hkw5 := hkw4.trans hk5
          have hC5 : Two w5 g T V0 := hk5.block hC4 (by omega)
          have hB5 : Two w5 w.heap.size [] [] := hk5.block hB4 (by omega)
          have hg5 : g < w5.heap.size := (Array.getElem?_eq_some_iff.1 hC5).1
          clear h4 hkw4 hC4 hB4 hk5 hdr3 hdr2
          obtain ⟨r5, hr5e⟩ : ∃ r5, blanksB r3 = r5 := ⟨_, rfl⟩
          rw [hr5e] at hr5 hrp
          have HR5 := Lib.hid hr5e
          clear hr5e
          obtain ⟨k5, hk5, hdr5, h5⟩ := hr5
          have ki := dis_any b k5 s r5 35 w5 h5 hk5 hdr5
          cases h35 : headIs r5 35 with
          | true =>
            exfalso
            obtain ⟨r9, h1, h2⟩ := HHY.out
            rw [HZ.out] at h1
            cases h1
            rw [HR5.out, h35] at h2
            cases h2
          | false =>
            -- SV
            rw [h35] at ki
            rw [refValue_other h35] at hrp
            obtain ⟨ANV, hNV⟩ : ∃ ANV, refVal r5.length r5 [] 0 = ANV := ⟨_, rfl⟩
            rw [hNV] at hrp
            have HRP := Lib.hid hrp
            have HNV := Lib.hid hNV
            clear h35 hrp hNV
            obtain ⟨i0, hi0, hz0, hz1, hz2⟩ := info_parts Tryz.infoByte
            go_upto_region 20 with (go_at_call 205; refine Calls.mono (show Calls _ _ _ _ _ from ki) ?_; rintro e w6 ⟨rfl, m, hw6⟩; have hkw6 : Kept b w w6 := (by rw [hw6]; exact hkw5.trans (Kept.of_below (Below.drewN (Below.refl _ _) m))); have hC6 : Two w6 g T V0 := (by rw [hw6]; exact hC5); have hB6 : Two w6 w.heap.size [] [] := (by rw [hw6]; exact hB5); have h6 : DAt w6 b s k5 := (by rw [hw6]; exact h5); clear hw6)
            clear hkw5 hC5 hB5 h5 ki hg5
            have hg6 : g < w6.heap.size := (Array.getElem?_eq_some_iff.1 hC6).1
            have hl6 : Lies w b s k5 g T V0 w.heap.size w6 := ⟨h6, hkw6, hC6, hB6, hlt⟩
            clear h6 hkw6 hC6 hB6
            have HD5 := Lib.hid hdr5
            clear hdr5
            go_upto_block 4 with fail
            go_cut [8, 9, 10, 11] from 183 to 332 (fun s8 s9 _ _ wx => VEndD w w6.heap.size b s g T V0 ANV s8 s9 wx)
            case first =>
              go_wp2_with fail
              go_loopw [8, 9] (fun s8 s9 wr => VRelD w w6.heap.size b s g T V0 ANV s8 s9 wr) (fun _ _ wr => s.length - posOf wr b)
              case atStart => exact ⟨k5, 0, [], rfl, Nat.le_refl _, hk5, by simp, hl6, Nat.le_refl _, World.ownsRow_nil _ _ _ _, by rw [HD5.out]; exact HNV.out⟩
              case round =>
                obtain ⟨k, L, o, rfl, hL, hk, hok, hlies, hszr, hown, hans⟩ := hrel
                have hpos := hlies.1.pos
                obtain ⟨u, hu⟩ : ∃ u, s.drop k = u := ⟨_, rfl⟩
                rw [hu] at hans
                obtain ⟨q0, q1, q2⟩ := hlies.1.cells
                cases u with
                | nil =>
                  have hkl : k = s.length := by have := congrArg List.length hu; simp at this; omega
                  have e1 : ¬ k < s.length := by omega
                  have e3 : decide (k < s.length) = false := decide_eq_false e1
                  have hA : ANV = some (o.take L, s.drop k) := by rw [← hans, hu]; rfl
                  have G1 := Lib.hid hA
                  clear hkl hu hans hA
                  go_wp2
                  go_quiet (fail)
                  go_wp2
                  go_meet
                  exact ⟨k, L, o, rfl, hL, hk, hlies.drewN _, hown, G1.out⟩
                | cons x t =>
                  obtain ⟨hltk, hdr⟩ := drop_lt hu
                  have e1 : decide ((k : Int) < (s.length : Int)) = true := decide_eq_true (by omega)
                  have e2 : (k : Int) < (s.length : Int) := by omega
                  have hb := fun h' => byte_at hu h'
                  rw [List.length_cons, refVal] at hans
                  by_cases x92 : x = 92
                  · -- VE
                    as_aux_lemma =>
                      subst x92
                      rw [if_pos rfl] at hans
                      clear e2
                      have e2 : (k : Int) < (s.length : Int) := by omega
                      have wk : IntKind.i64.wrap ((k : Int) + 1) = (k : Int) + 1 := wraps_i64 _ (by omega) (by omega)
                      have HU2 := Lib.hid hu
                      have HDR2 := Lib.hid hdr
                      have HAN := Lib.hid hans
                      clear hu hdr hans
                      go_wp2
                      go_quiet (fail)
                      have hl1 := hlies.drewN nq
                      have hown1 : (wr.drewN nq).ownsRow w6.heap.size 5 1 u8 o.length (bV o) := hown
                      have hsz1 : w6.heap.size ≤ (wr.drewN nq).heap.size := hszr
                      clear q0 q1 q2
                      generalize wr.drewN nq = wa at hl1 hown1 hsz1 ⊢
                      obtain ⟨q0, q1, q2⟩ := hl1.1.cells
                      go_wp2
                      go_quiet (fail)
                      have hl2 := hl1.drewN nq
                      have hown2 : (wa.drewN nq).ownsRow w6.heap.size 5 1 u8 o.length (bV o) := hown1
                      have hsz2 : w6.heap.size ≤ (wa.drewN nq).heap.size := hsz1
                      clear q0 q1 q2
                      generalize wa.drewN nq = wb at hl2 hown2 hsz2 ⊢
                      obtain ⟨q0, q1, q2⟩ := hl2.1.cells
                      cases t with
                      | nil =>
                        have hA : ANV = none := by rw [← HAN.out]; rfl
                        have hans2 : Hid (ANS = none) := Lib.hid (by rw [HRP.out, hA])
                        have hkl : k + 1 = s.length := by have := congrArg List.length HU2.out; simp at this; omega
                        have f1 : decide ((s.length : Int) ≤ (k : Int) + 1) = true := decide_eq_true (by omega)
                        have f2 : decide ((k : Int) + 1 ≥ (s.length : Int)) = true := f1
                        clear hA hkl
                        go_wp2
                        go_quiet (fail)
                        have hl3 := hl2.drewN nq
                        have hown3 : (wb.drewN nq).ownsRow w6.heap.size 5 1 u8 o.length (bV o) := hown2
                        have hsz3 : w6.heap.size ≤ (wb.drewN nq).heap.size := hsz2
                        clear q0 q1 q2
                        generalize wb.drewN nq = wd at hl3 hown3 hsz3 ⊢
                        obtain ⟨q0, q1, q2⟩ := hl3.1.cells
                        obtain ⟨r0, r1, r2, r3⟩ := hl3.2.2.1.cells
                        obtain ⟨p0, p1, p2, p3⟩ := hl3.2.2.2.1.cells
                        go_wp2
                        obtain ⟨hB9, hk9⟩ := ret_two hl3.2.2.2.1 hl3.2.1 (Nat.le_refl _) T V0
                        clear q0 q1 q2 p0 p1 p2 p3 r0 r1 r2 r3
                        generalize (wd.setCell ⟨w.heap.size, 0, none⟩ (.string ⟨T.toArray⟩)).setCell ⟨w.heap.size, 1, none⟩ (.string ⟨V0.toArray⟩) = w9 at hB9 hk9 ⊢
                        obtain ⟨y0, y1, _, _⟩ := hB9.cells
                        refine bodyPost_ret (v := .tuple #[.agg #[.string ⟨T.toArray⟩, .string ⟨V0.toArray⟩], .bool false]) (by simp [results, Tryz.results204, go_sem, y0, y1]) rfl ?_
                        rw [hans2.out]
                        exact ⟨⟨T, V0, rfl⟩, hk9⟩
                      | cons n t1 =>
                        have hu1 : s.drop (k + 1) = n :: t1 := HDR2.out
                        obtain ⟨hlt1, hdr1⟩ := drop_lt hu1
                        have hb1 := fun h' => byte_at hu1 h'
                        have e2b : (k : Int) + 1 < (s.length : Int) := by omega
                        have f1 : decide ((s.length : Int) ≤ (k : Int) + 1) = false := decide_eq_false (by omega)
                        have f2 : decide ((k : Int) + 1 ≥ (s.length : Int)) = false := f1
                        have zk : ((k : Int) + 1).toNat = k + 1 := by omega
                        have zk0 : (0 : Int) ≤ (k : Int) + 1 := by omega
                        have hlt2 : k + 2 ≤ s.length := hlt1
                        have HDR1 := Lib.hid hdr1
                        clear hu1 hdr1
                        go_wp2
                        go_quiet (fail)
                        have hl3 := hl2.drewN nq
                        have hown3 : (wb.drewN nq).ownsRow w6.heap.size 5 1 u8 o.length (bV o) := hown2
                        have hsz3 : w6.heap.size ≤ (wb.drewN nq).heap.size := hsz2
                        clear q0 q1 q2
                        generalize wb.drewN nq = wd at hl3 hown3 hsz3 ⊢
                        obtain ⟨q0, q1, q2⟩ := hl3.1.cells
                        go_wp2
                        go_quiet (fail)
                        have hl4 := hl3.drewN nq
                        have hown4 : (wd.drewN nq).ownsRow w6.heap.size 5 1 u8 o.length (bV o) := hown3
                        have hsz4 : w6.heap.size ≤ (wd.drewN nq).heap.size := hsz3
                        clear q0 q1 q2
                        generalize wd.drewN nq = we at hl4 hown4 hsz4 ⊢
                        obtain ⟨q0, q1, q2⟩ := hl4.1.cells
                        go_upto_region 28 with fail
                        obtain ⟨ES, hES⟩ : ∃ ES, decide (n ∈ escL) = ES := ⟨_, rfl⟩
                        have HES := Lib.hid hES
                        clear hES
                        go_cut [11, 239] from 226 to 238 (fun s11 s239 wx => s11 = .int .u8 (n.toNat : Int) ∧ s239 = .bool ES ∧ wx = we)
                        case first =>
                          have ksp := fun w' => special_any n w'
                          by_cases hs1 : n ∈ specL
                          · rw [decide_eq_true hs1] at ksp
                            have hS : Hid (ES = true) := Lib.hid (by rw [← HES.out]; exact decide_eq_true (spec_esc hs1))
                            clear hs1
                            go_wp2_with (go_at_call 254; refine Calls.mono (show Calls _ _ _ _ _ from ksp _) ?_; rintro e w3 ⟨rfl, rfl⟩)
                            go_meet
                            exact ⟨rfl, by rw [hS.out], rfl⟩
                          · rw [decide_eq_false hs1] at ksp
                            by_cases hes : n ∈ escL
                            · rcases esc_cases hes hs1 with hc | hc | hc
                              · clear hs1 hes
                                subst hc
                                have hS : Hid (ES = true) := Lib.hid (by rw [← HES.out]; decide)
                                go_wp2_with (go_at_call 254; refine Calls.mono (show Calls _ _ _ _ _ from ksp _) ?_; rintro e w3 ⟨rfl, rfl⟩)
                                go_meet
                                exact ⟨rfl, by rw [hS.out], rfl⟩
                              · clear hs1 hes
                                subst hc
                                have hS : Hid (ES = true) := Lib.hid (by rw [← HES.out]; decide)
                                go_wp2_with (go_at_call 254; refine Calls.mono (show Calls _ _ _ _ _ from ksp _) ?_; rintro e w3 ⟨rfl, rfl⟩)
                                go_meet
                                exact ⟨rfl, by rw [hS.out], rfl⟩
                              · clear hs1 hes
                                subst hc
                                have hS : Hid (ES = true) := Lib.hid (by rw [← HES.out]; decide)
                                go_wp2_with (go_at_call 254; refine Calls.mono (show Calls _ _ _ _ _ from ksp _) ?_; rintro e w3 ⟨rfl, rfl⟩)
                                go_meet
                                exact ⟨rfl, by rw [hS.out], rfl⟩
                            · have n61 : ((n.toNat : Int) == 61) = false := esc_ne hes 61 (by decide) (by decide)
                              have n35 : ((n.toNat : Int) == 35) = false := esc_ne hes 35 (by decide) (by decide)
                              have n32 : ((n.toNat : Int) == 32) = false := esc_ne hes 32 (by decide) (by decide)
                              have hS : Hid (ES = false) := Lib.hid (by rw [← HES.out]; exact decide_eq_false hes)
                              clear hs1 hes
                              go_wp2_with (go_at_call 254; refine Calls.mono (show Calls _ _ _ _ _ from ksp _) ?_; rintro e w3 ⟨rfl, rfl⟩)
                              go_meet
                              exact ⟨rfl, by rw [hS.out], rfl⟩
                        case rest =>
                          obtain ⟨rfl, rfl, hwx⟩ := hcut
                          subst hwx
                          cases ES with
                          | true =>
                            have hes : n ∈ escL := of_decide_eq_true HES.out
                            have hrE : rEsc (n :: t1) = some (n, t1) := by simp only [rEsc]; rw [if_pos hes]
                            have hS : refVal (s.drop (k + 2)).length (s.drop (k + 2)) (o ++ [n]) (o.length + 1) = ANV := by
                              have h1 := HAN.out
                              rw [hrE] at h1
                              rw [show k + 2 = k + 1 + 1 from rfl, HDR1.out, ← h1]
                              exact refVal_fuel _ _ _ _ _ (Nat.le_refl _) (by simp)
                            have HS := Lib.hid hS
                            clear hS hrE hes
                            go_wp2_with (at_builtin; refine wpList_append_own _ rfl (.tmp 240) (.tmp 242) 153 rfl w6.heap.size 5 i0 (.int .u8 0) 1 1 Tryz.underlying153 hi0 hz0 hz1 hz2 rfl (by decide) u8 o.length (bV o) rfl (hown4.alloc _) ⟨wc.heap.size, 0, none⟩ 1 1 [.int .u8 (n.toNat : Int)] rfl rfl (cell_one_new _ _ _) ?d2 ?d3 ?d4 ?d5 ?_)
                            case d2 => intro u hu; simp at hu; subst hu; rfl
                            case d3 => unfold maxLen; omega
                            case d4 => omega
                            case d5 => simp; omega
                            intro v' w7 ho7 hg7 _
                            have hl9 := (hl4.alloc _).grown hg7 (B := w6.heap.size) (fun j hj => (hown4.lt j hj).1) (by omega) hg6 (by omega)
                            have hsz9 : w6.heap.size ≤ w7.heap.size := by have := hg7.size; simp at this; omega
                            have hown9 : w7.ownsRow w6.heap.size 5 1 v' (o ++ [n]).length (bV (o ++ [n])) := by
                              rw [List.length_append, bV_append]
                              exact ho7
                            clear ho7 hg7 q0 q1 q2
                            obtain ⟨a', cap', hv'⟩ : ∃ a' cap', v' = .slice a' (o.length + 1) cap' := by
                              rcases hown9.2 with ⟨hv, h0⟩ | ⟨g', cap, cur, hv, _⟩
                              · simp at h0
                              · exact ⟨some ⟨g', 0, none⟩, cap, by rw [hv]; simp⟩
                            subst hv'
                            obtain ⟨q0, q1, q2⟩ := hl9.1.cells
                            go_wp2_with fail
                            go_roundw
                            case rel => exact ⟨k + 2, o.length + 1, o ++ [n], rfl, by simp, hlt2, by simp; omega, hl9.set2 hlb, by simpa using hsz9, own_set hown9 (by omega), HS.out⟩
                            case measure => rw [hpos, (hl9.set2 hlb).1.pos]; omega
                          | false =>
                            have hes : n ∉ escL := of_decide_eq_false HES.out
                            have wk2 : IntKind.i64.wrap ((k : Int) + 2) = (k : Int) + 2 := wraps_i64 _ (by omega) (by omega)
                            have kdn := fun w' => RDigit_any n w'
                            obtain ⟨BAD, hBAD⟩ : ∃ BAD, (rEsc (n :: t1)).isNone = BAD := ⟨_, rfl⟩
                            have HBD := Lib.hid hBAD
                            have HNE := Lib.hid hes
                            clear hBAD hes
                            go_upto_region 31 with fail
                            go_cut [281] from 252 to 280 (fun s281 wx => s281 = .bool BAD ∧ Lies w b s k g T V0 w.heap.size wx ∧ w6.heap.size ≤ wx.heap.size ∧ wx.ownsRow w6.heap.size 5 1 u8 o.length (bV o))
                            case first =>
                              cases t1 with
                              | nil =>
                                have hkl : k + 2 = s.length := by have := congrArg List.length HDR1.out; simp at this; omega
                                have g1 : decide ((s.length : Int) ≤ (k : Int) + 2) = true := decide_eq_true (by omega)
                                have g2 : decide ((k : Int) + 2 ≥ (s.length : Int)) = true := g1
                                have HB : Hid (BAD = true) := Lib.hid (by rw [← HBD.out]; simp only [rEsc]; rw [if_neg HNE.out]; rfl)
                                clear hkl
                                go_quiet (fail)
                                go_wp2_with fail
                                go_meet
                                exact ⟨by rw [HB.out], hl4.drewN _, hsz4, hown4⟩
                              | cons m t2 =>
                                have hdr1 := HDR1.out
                                obtain ⟨hlt3, hdr2⟩ := drop_lt hdr1
                                have hb2 := fun h' => byte_at hdr1 h'
                                have g1 : decide ((s.length : Int) ≤ (k : Int) + 2) = false := decide_eq_false (by omega)
                                have g2 : decide ((k : Int) + 2 ≥ (s.length : Int)) = false := g1
                                have zk2 : ((k : Int) + 2).toNat = k + 2 := by omega
                                have zk3 : (0 : Int) ≤ (k : Int) + 2 := by omega
                                have e3b : (k : Int) + 2 < (s.length : Int) := by omega
                                have hb3 : ∀ h', (⟨s.toArray⟩ : ByteArray)[k + 2]'h' = m := hb2
                                have kdm := fun w' => RDigit_any m w'
                                have hbd : (if isHex n && isHex m then some (hexB n m, t2) else none).isNone = BAD := by rw [← HBD.out]; simp only [rEsc]; rw [if_neg HNE.out]
                                clear hdr1 hdr2 hb2
                                cases hn : isHex n with
                                | false =>
                                  have HB : Hid (BAD = true) := Lib.hid (by rw [← hbd, hn]; rfl)
                                  have hv : decide (hexD n < 0) = true := by unfold isHex at hn; simpa using hn
                                  obtain ⟨V, hV⟩ : ∃ V, hexD n = V := ⟨_, rfl⟩
                                  rw [hV] at kdn hv
                                  clear hV hn hbd
                                  go_quiet (first | (go_at_call_of 252 (Value.int .u8 (n.toNat : Int)); exact Calls.quiet_of_same ((kdn _).mono fun e w' hh => ⟨hh.1, hh.2.symm⟩)))
                                  go_wp2_with fail
                                  go_meet
                                  exact ⟨by rw [HB.out], hl4.drewN _, hsz4, hown4⟩
                                | true =>
                                  obtain ⟨X, hX, hX1⟩ := isHex_nat hn
                                  have hvx : decide ((X : Int) < 0) = false := decide_eq_false (by omega)
                                  rw [hX] at kdn
                                  clear hX
                                  cases hm : isHex m with
                                  | false =>
                                    have HB : Hid (BAD = true) := Lib.hid (by rw [← hbd, hn, hm]; rfl)
                                    have hv : decide (hexD m < 0) = true := by unfold isHex at hm; simpa using hm
                                    obtain ⟨V, hV⟩ : ∃ V, hexD m = V := ⟨_, rfl⟩
                                    rw [hV] at kdm hv
                                    clear hV hn hm hbd
                                    go_quiet (first | (go_at_call_of 252 (Value.int .u8 (n.toNat : Int)); exact Calls.quiet_of_same ((kdn _).mono fun e w' hh => ⟨hh.1, hh.2.symm⟩)) | (go_at_call_of 252 (Value.int .u8 (m.toNat : Int)); exact Calls.quiet_of_same ((kdm _).mono fun e w' hh => ⟨hh.1, hh.2.symm⟩)))
                                    go_wp2_with fail
                                    go_meet
                                    exact ⟨by rw [HB.out], hl4.drewN _, hsz4, hown4⟩
                                  | true =>
                                    obtain ⟨Y, hY, hY1⟩ := isHex_nat hm
                                    have hvy : decide ((Y : Int) < 0) = false := decide_eq_false (by omega)
                                    rw [hY] at kdm
                                    have HB : Hid (BAD = false) := Lib.hid (by rw [← hbd, hn, hm]; rfl)
                                    clear hY hn hm hbd
                                    go_quiet (first | (go_at_call_of 252 (Value.int .u8 (n.toNat : Int)); exact Calls.quiet_of_same ((kdn _).mono fun e w' hh => ⟨hh.1, hh.2.symm⟩)) | (go_at_call_of 252 (Value.int .u8 (m.toNat : Int)); exact Calls.quiet_of_same ((kdm _).mono fun e w' hh => ⟨hh.1, hh.2.symm⟩)))
                                    go_wp2_with fail
                                    go_meet
                                    exact ⟨by rw [HB.out], hl4.drewN _, hsz4, hown4⟩
                            case rest =>
                              clear q0 q1 q2
                              obtain ⟨rfl, hl5, hsz5, hown5⟩ := hcut
                              cases BAD with
                              | true =>
                                have hr0 : rEsc (n :: t1) = none := by simpa using HBD.out
                                have hA : ANV = none := by rw [← HAN.out, hr0]
                                have hans2 : Hid (ANS = none) := Lib.hid (by rw [HRP.out, hA])
                                clear hA hr0
                                obtain ⟨r0, r1, r2, r3⟩ := hl5.2.2.1.cells
                                obtain ⟨p0, p1, p2, p3⟩ := hl5.2.2.2.1.cells
                                obtain ⟨q0, q1, q2⟩ := hl5.1.cells
                                go_wp2
                                obtain ⟨hB9, hk9⟩ := ret_two hl5.2.2.2.1 hl5.2.1 (Nat.le_refl _) T V0
                                clear q0 q1 q2 p0 p1 p2 p3 r0 r1 r2 r3
                                generalize (wc.setCell ⟨w.heap.size, 0, none⟩ (.string ⟨T.toArray⟩)).setCell ⟨w.heap.size, 1, none⟩ (.string ⟨V0.toArray⟩) = w9 at hB9 hk9 ⊢
                                obtain ⟨y0, y1, _, _⟩ := hB9.cells
                                refine bodyPost_ret (v := .tuple #[.agg #[.string ⟨T.toArray⟩, .string ⟨V0.toArray⟩], .bool false]) (by simp [results, Tryz.results204, go_sem, y0, y1]) rfl ?_
                                rw [hans2.out]
                                exact ⟨⟨T, V0, rfl⟩, hk9⟩
                              | false =>
                                cases t1 with
                                | nil =>
                                  exfalso
                                  have := HBD.out
                                  simp only [rEsc] at this
                                  rw [if_neg HNE.out] at this
                                  simp at this
                                | cons m t2 =>
                                  have hdr1 := HDR1.out
                                  obtain ⟨hlt3, hdr2⟩ := drop_lt hdr1
                                  have hb2 := fun h' => byte_at hdr1 h'
                                  have hb3 : ∀ h', (⟨s.toArray⟩ : ByteArray)[k + 2]'h' = m := hb2
                                  have hlt4 : k + 3 ≤ s.length := hlt3
                                  have zk2 : ((k : Int) + 2).toNat = k + 2 := by omega
                                  have zk3 : (0 : Int) ≤ (k : Int) + 2 := by omega
                                  have e3b : (k : Int) + 2 < (s.length : Int) := by omega
                                  have kdm := fun w' => RDigit_any m w'
                                  have hrE : rEsc (n :: m :: t2) = if isHex n && isHex m then some (hexB n m, t2) else none := by simp only [rEsc]; rw [if_neg HNE.out]
                                  have hhm : isHex n = true ∧ isHex m = true := by
                                    have h1 := HBD.out
                                    rw [hrE] at h1
                                    by_cases hc : (isHex n && isHex m) = true
                                    · simpa using hc
                                    · rw [if_neg hc] at h1; simp at h1
                                  obtain ⟨hn, hm⟩ := hhm
                                  obtain ⟨X, hX, hX1⟩ := isHex_nat hn
                                  obtain ⟨Y, hY, hY1⟩ := isHex_nat hm
                                  have hz := hexB_nat hX hY hX1 hY1
                                  rw [Int.mul_comm] at hz
                                  rw [hX] at kdn
                                  rw [hY] at kdm
                                  have hS : refVal (s.drop (k + 3)).length (s.drop (k + 3)) (o ++ [hexB n m]) (o.length + 1) = ANV := by
                                    have h1 := HAN.out
                                    rw [hrE, hn, hm] at h1
                                    rw [show k + 3 = k + 1 + 1 + 1 from rfl, hdr2, ← h1]
                                    exact refVal_fuel _ _ _ _ _ (Nat.le_refl _) (by simp; omega)
                                  have HS := Lib.hid hS
                                  have HZ2 := Lib.hid hz
                                  clear hS hz hn hm hX hY hdr1 hdr2 hb2 hrE
                                  obtain ⟨q0, q1, q2⟩ := hl5.1.cells
                                  go_wp2
                                  have hownD : wc.drew.ownsRow w6.heap.size 5 1 u8 o.length (bV o) := hown5
                                  have wx1 : IntKind.i64.wrap (16 * (X : Int)) = 16 * (X : Int) := wraps_i64 _ (by omega) (by omega)
                                  have wx2 : IntKind.i64.wrap (16 * (X : Int) + (Y : Int)) = 16 * (X : Int) + (Y : Int) := wraps_i64 _ (by omega) (by omega)
                                  have wx3 : IntKind.u8.wrap (16 * (X : Int) + (Y : Int)) = 16 * (X : Int) + (Y : Int) := by rw [IntKind.wrap_u8]; omega
                                  go_region_held3 (fun w' => w'.cell? ⟨b, 0, none⟩ = some (.string ⟨s.toArray⟩) ∧ w'.cell? ⟨b, 1, none⟩ = some (.int .i64 (k : Int)))
                                    (first | go_keep | exact ⟨s0, s1⟩ | exact ⟨q0, q1⟩)
                                    (first
                                      | (go_at_call_of 252 (Value.int .u8 (n.toNat : Int)); refine Calls.mono (show Calls _ _ _ _ _ from kdn _) ?_; rintro e w8 ⟨rfl, rfl⟩)
                                      | (go_at_call_of 252 (Value.int .u8 (m.toNat : Int)); refine Calls.mono (show Calls _ _ _ _ _ from kdm _) ?_; rintro e w8 ⟨rfl, rfl⟩)
                                      | (refine step_append_lies _ (by rfl) _ _ _ (by rfl) w6.heap.size 5 i0 _ 1 1 Tryz.underlying153 hi0 hz0 hz1 hz2 rfl (by omega) u8 o.length (bV o) (by rfl) (hownD.alloc _) ⟨wc.heap.size, 0, none⟩ 1 1 [.int .u8 (16 * (X : Int) + Y)] (by rfl) (by rfl) (cell_one_new _ _ _) (by simp [Value.oneCell']) (by omega) (by unfold maxLen; omega) (by omega) (by simp; omega) (wc.heap.size + 1) (by simp) ?_; intro g7 cap7 w7 ho7 hg7 hat7 hlt7; have hl9 := ((hl5.drewN 1).alloc _).grown hg7 (B := w6.heap.size) (fun j hj => (hown5.lt j hj).1) (by omega) hg6 (by omega); have s0 := hl9.1.cells.1; have s1 := hl9.1.cells.2.1))
                                  all_goals
                                    have hsz9 : w6.heap.size ≤ w7.heap.size := by have := hg7.size; simp at this; omega
                                    have hown9 : w7.ownsRow w6.heap.size 5 1 (.slice (some ⟨g7, 0, none⟩) (o.length + 1) cap7) (o ++ [hexB n m]).length (bV (o ++ [hexB n m])) := by
                                      rw [List.length_append, bV_append]
                                      rw [← HZ2.out] at ho7
                                      exact ho7
                                    clear wx1 wx2 wx3 q0 q1 q2 ho7 hg7 hat7 s0 s1 hownD
                                    obtain ⟨q0, q1, q2⟩ := hl9.1.cells
                                    go_wp2_with fail
                                    go_roundw
                                    case rel => exact ⟨k + 3, o.length + 1, o ++ [hexB n m], rfl, by simp, hlt4, by simp; omega, hl9.set3 hlb, by simpa using hsz9, own_set hown9 (by omega), HS.out⟩
                                    case measure => rw [hpos, (hl9.set3 hlb).1.pos]; omega
                    -- VE end
                  · -- VO
                    as_aux_lemma =>
                      rw [if_neg x92] at hans
                      have xb : ((x.toNat : Int) == 92) = (x == 92) := (beq_nat _ 92).trans (u8_beq x 92 (by decide)).symm
                      rw [show (x == 92) = false by simpa using x92] at xb
                      have HU2 := Lib.hid hu
                      have HDR2 := Lib.hid hdr
                      have HAN := Lib.hid hans
                      clear x92 hu hdr hans
                      go_wp2
                      go_quiet (fail)
                      have hl1 := hlies.drewN nq
                      have hown1 : (wr.drewN nq).ownsRow w6.heap.size 5 1 u8 o.length (bV o) := hown
                      have hsz1 : w6.heap.size ≤ (wr.drewN nq).heap.size := hszr
                      clear q0 q1 q2
                      generalize wr.drewN nq = wa at hl1 hown1 hsz1 ⊢
                      obtain ⟨q0, q1, q2⟩ := hl1.1.cells
                      go_wp2
                      go_quiet (fail)
                      have hl2 := hl1.drewN nq
                      have hown2 : (wa.drewN nq).ownsRow w6.heap.size 5 1 u8 o.length (bV o) := hown1
                      have hsz2 : w6.heap.size ≤ (wa.drewN nq).heap.size := hsz1
                      clear q0 q1 q2
                      generalize wa.drewN nq = wb at hl2 hown2 hsz2 ⊢
                      obtain ⟨q0, q1, q2⟩ := hl2.1.cells
                      go_upto_region 36 with fail
                      obtain ⟨SP, hSP⟩ : ∃ SP, decide (x ∈ specL ∨ x = 0) = SP := ⟨_, rfl⟩
                      have HSP := Lib.hid hSP
                      clear hSP
                      go_cut [317] from 312 to 316 (fun s317 wx => s317 = .bool SP ∧ wx = wb)
                      case first =>
                        have ksp := fun w' => special_any x w'
                        by_cases hs1 : x ∈ specL
                        · rw [decide_eq_true hs1] at ksp
                          have hS : Hid (SP = true) := Lib.hid (by rw [← HSP.out]; exact decide_eq_true (.inl hs1))
                          clear hs1
                          go_wp2_with (go_at_call 254; refine Calls.mono (show Calls _ _ _ _ _ from ksp _) ?_; rintro e w3 ⟨rfl, rfl⟩)
                          go_meet
                          exact ⟨by rw [hS.out], rfl⟩
                        · rw [decide_eq_false hs1] at ksp
                          have x0b : ((x.toNat : Int) == 0) = (x == 0) := (beq_nat _ 0).trans (u8_beq x 0 (by decide)).symm
                          have hS : Hid (SP = (x == 0)) := Lib.hid (by rw [← HSP.out, Bool.eq_iff_iff]; simp [hs1])
                          generalize (x == 0) = p0 at x0b hS
                          clear hs1
                          go_wp2_with (go_at_call 254; refine Calls.mono (show Calls _ _ _ _ _ from ksp _) ?_; rintro e w3 ⟨rfl, rfl⟩)
                          go_meet
                          exact ⟨by rw [hS.out], rfl⟩
                      case rest =>
                        obtain ⟨rfl, hwx⟩ := hcut
                        subst hwx
                        cases SP with
                        | true =>
                          have hsp : x ∈ specL ∨ x = 0 := of_decide_eq_true HSP.out
                          have hA : ANV = some (o.take L, s.drop k) := by rw [← HAN.out, if_pos hsp, HU2.out]
                          have G1 := Lib.hid hA
                          clear hA hsp
                          go_wp2_with fail
                          go_meet
                          exact ⟨k, L, o, rfl, hL, hk, hl2, hown2, G1.out⟩
                        | false =>
                          have hsp : ¬ (x ∈ specL ∨ x = 0) := of_decide_eq_false HSP.out
                          have hans2 : refVal (s.drop (k + 1)).length (s.drop (k + 1)) (o ++ [x]) (if x = 32 then L else o.length + 1) = ANV := by rw [← HAN.out, if_neg hsp, HDR2.out]
                          obtain ⟨L2, hL2⟩ : ∃ L2, (if x = 32 then L else o.length + 1) = L2 := ⟨_, rfl⟩
                          rw [hL2] at hans2
                          have hL2l : L2 ≤ o.length + 1 := by rw [← hL2]; split <;> omega
                          have HS := Lib.hid hans2
                          have HL2 := Lib.hid hL2
                          clear hans2 hL2 hsp
                          go_wp2_with (at_builtin; refine wpList_append_own _ rfl (.tmp 318) (.tmp 320) 153 rfl w6.heap.size 5 i0 (.int .u8 0) 1 1 Tryz.underlying153 hi0 hz0 hz1 hz2 rfl (by decide) u8 o.length (bV o) rfl (hown2.alloc _) ⟨wc.heap.size, 0, none⟩ 1 1 [.int .u8 (x.toNat : Int)] rfl rfl (cell_one_new _ _ _) ?d2 ?d3 ?d4 ?d5 ?_)
                          case d2 => intro u hu; simp at hu; subst hu; rfl
                          case d3 => unfold maxLen; omega
                          case d4 => omega
                          case d5 => simp; omega
                          intro v' w7 ho7 hg7 _
                          have hl9 := (hl2.alloc _).grown hg7 (B := w6.heap.size) (fun j hj => (hown2.lt j hj).1) (by omega) hg6 (by omega)
                          have hsz9 : w6.heap.size ≤ w7.heap.size := by have := hg7.size; simp at this; omega
                          have hown9 : w7.ownsRow w6.heap.size 5 1 v' (o ++ [x]).length (bV (o ++ [x])) := by
                            rw [List.length_append, bV_append]
                            exact ho7
                          clear ho7 hg7 q0 q1 q2
                          obtain ⟨a', cap', hv'⟩ : ∃ a' cap', v' = .slice a' (o.length + 1) cap' := by
                            rcases hown9.2 with ⟨hv, h0⟩ | ⟨g', cap, cur, hv, _⟩
                            · simp at h0
                            · exact ⟨some ⟨g', 0, none⟩, cap, by rw [hv]; simp⟩
                          subst hv'
                          obtain ⟨q0, q1, q2⟩ := hl9.1.cells
                          go_upto_if 323 with fail
                          go_cut [9, 10] from 324 to 325 (fun s9 _ wx => s9 = .int .i64 (L2 : Int) ∧ wx = w7)
                          case first =>
                            have x32b : ((x.toNat : Int) != 32) = (x != 32) := by
                              have h1 : ((x.toNat : Int) == 32) = (x == 32) := (beq_nat _ 32).trans (u8_beq x 32 (by decide)).symm
                              show (!((x.toNat : Int) == 32)) = (!(x == 32))
                              rw [h1]
                            by_cases x32 : x = 32
                            · have hh : Hid (L = L2) := Lib.hid (by rw [← HL2.out, if_pos x32])
                              subst x32
                              clear x32b
                              go_wp2_with fail
                              go_meet
                              exact ⟨by rw [hh.out], rfl⟩
                            · have hh : Hid (o.length + 1 = L2) := Lib.hid (by rw [← HL2.out, if_neg x32])
                              rw [show (x != 32) = true by simpa using x32] at x32b
                              clear x32
                              go_wp2_with fail
                              go_meet
                              exact ⟨by rw [← hh.out]; rfl, rfl⟩
                          case rest =>
                            obtain ⟨rfl, hwx⟩ := hcut
                            subst hwx
                            go_wp2_with fail
                            go_roundw
                            case rel => exact ⟨k + 1, L2, o ++ [x], rfl, by simp; omega, hltk, by simp; omega, hl9.set1 hlb, by simpa using hsz9, own_set hown9 (by omega), HS.out⟩
                            case measure => rw [hpos, (hl9.set1 hlb).1.pos]; omega
                    -- VO end
            case rest =>
              -- VR
              clear hl6
              obtain ⟨k9, L9, o9, rfl, hL9, hk9l, hl9, hown9, hA9⟩ := hcut
              rw [hA9] at HRP
              have hans2 : Hid (ANS = some ((T, o9.take L9), s.drop k9)) := Lib.hid HRP.out
              obtain ⟨a, cap, hv, hcap, ha, hsp, hcv⟩ := own_take hown9 hL9
              subst hv
              obtain ⟨VV, hVV⟩ : ∃ VV, o9.take L9 = VV := ⟨_, rfl⟩
              rw [hVV] at hcv hans2
              clear hVV hA9 HNV HRP
              obtain ⟨q0, q1, q2⟩ := hl9.1.cells
              obtain ⟨r0, r1, r2, r3⟩ := hl9.2.2.1.cells
              go_upto_region 42 with fail
              have hl10 : DAt (wc.setCell ⟨g, 1, none⟩ (.string ⟨VV.toArray⟩)) b s k9 := hl9.1.other _ (by omega)
              have hkw10 := hl9.2.1.new (g := g) (i := 1) (by omega) (.string ⟨VV.toArray⟩)
              have hB10 := hl9.2.2.2.1.other (g' := g) (i := 1) (.string ⟨VV.toArray⟩) (by omega)
              have hC10 := hl9.2.2.1.set1 VV
              clear q0 q1 q2 r0 r1 r2 r3
              generalize wc.setCell ⟨g, 1, none⟩ (.string ⟨VV.toArray⟩) = w10 at hl10 hkw10 hB10 hC10 ⊢
              obtain ⟨r0, r1, r2, r3⟩ := hC10.cells
              obtain ⟨p0, p1, p2, p3⟩ := hB10.cells
              go_wp2_with fail
              obtain ⟨hB12, hk12⟩ := ret_two hB10 hkw10 (Nat.le_refl _) T VV
              have h12 := hl10.two (h0 := w.heap.size) (by omega) (.string ⟨T.toArray⟩) (.string ⟨VV.toArray⟩)
              clear r0 r1 r2 r3 p0 p1 p2 p3
              generalize (w10.setCell ⟨w.heap.size, 0, none⟩ (.string ⟨T.toArray⟩)).setCell ⟨w.heap.size, 1, none⟩ (.string ⟨VV.toArray⟩) = w12 at hB12 hk12 h12 ⊢
              obtain ⟨y0, y1, _, _⟩ := hB12.cells
              refine bodyPost_ret (v := .tuple #[.agg #[.string ⟨T.toArray⟩, .string ⟨VV.toArray⟩], .bool true]) (by simp [results, Tryz.results204, go_sem, y0, y1]) rfl ?_
              rw [hans2.out]
              exact ⟨⟨rfl, k9, hk9l, rfl, h12⟩, hk12⟩
              -- VR end
            -- SV end
theorem dpair_any (b : Nat) (s r : List UInt8) (w : World) (h : Dd w b s r) (hs : s.length ≤ 1099511627776) :
    Calls Tryz.prog 204 #[.pointer (some ⟨b, 0, none⟩)] w (PairPost w b s (refPair r)) := by
  by_cases hV : ∃ r3, blanksB ((blanksB r).dropWhile inTyB) = 61 :: r3 ∧ headIs (blanksB r3) 35 = false
  · exact dpair_v b s r w h hs hV
  · refine dpair_h b s r w h hs (fun r3 h3 => ?_)
    cases hh : headIs (blanksB r3) 35 with
    | true => rfl
    | false => exact absurd ⟨r3, h3, hh⟩ hV
end Go.Proofs.YtegigcneimjimaaGreatDoor
