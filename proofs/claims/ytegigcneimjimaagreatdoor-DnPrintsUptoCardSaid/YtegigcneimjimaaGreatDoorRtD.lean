/- chanceryref4.Print: what it returns. -/
import Derived.Test.YtegigcneimjimaaGreatDoorRtC
namespace Go.Proofs.YtegigcneimjimaaGreatDoor
open Go.RowKit Go.Lib

set_option maxRecDepth 100000 in
theorem RIsType_all (s : List UInt8) (w : World) (hs : s.length ≤ 140737488355328) :
    Calls Tryz.prog 128 #[.string ⟨s.toArray⟩] w fun e w' => e = .returned (.bool (isTyB s)) ∧ w = w' := by
  by_cases h : s.length ≤ 1099511627776
  · exact RIsType_any s w h
  · have e : isTyB s = false := by unfold isTyB; rw [if_pos (.inr (by omega))]
    rw [e]
    have h0 : decide ((s.length : Int) < 1) = false := decide_eq_false (by omega)
    have h0' : s.length ≠ 0 := by omega
    have h1 : decide ((64 : Int) < (s.length : Int)) = true := decide_eq_true (by omega)
    go_enter Tryz.func128, Tryz.ntmps128
    go_wp2
    go_ret
    exact ⟨rfl, rfl⟩
theorem partB_len4 (r : List Av) (h : r.length ≤ 4) (hb : ∀ a ∈ r, a.1.length ≤ 64 ∧ a.2.length ≤ 1024) : (partB r).length ≤ 20000 :=
  joinB_len4 43 _ (fun l hl => by
    obtain ⟨a, ha, rfl⟩ := List.mem_map.1 hl
    exact avB_len64 a (hb a ha).1 (hb a ha).2) (by rw [List.length_map]; exact h)
theorem long_not {d : List (List Av)} (h : longB d = false) : d.length ≤ 20 ∧ ∀ r ∈ d, r.length ≤ 4 ∧ ∀ a ∈ r, a.2.length ≤ 1024 := by
  unfold longB at h
  simp only [Bool.or_eq_false_iff, decide_eq_false_iff_not, List.any_eq_false] at h
  obtain ⟨h1, h2⟩ := h
  refine ⟨by omega, fun r hr => ?_⟩
  have h3 := h2 r hr
  simp only [Bool.not_eq_true, Bool.or_eq_false_iff, decide_eq_false_iff_not, List.any_eq_false] at h3
  refine ⟨by omega, fun a ha => ?_⟩
  have := h3.2 a ha
  simp at this
  omega
theorem right_ty {d : List (List Av)} (h : d.all okR = true) : ∀ r ∈ d, ∀ a ∈ r, a.1.length ≤ 64 := fun r hr a ha => by
  have h1 := List.all_eq_true.1 h r hr
  unfold okR at h1
  rw [Bool.and_eq_true] at h1
  exact isTy_len (List.all_eq_true.1 h1.2 a ha)
def PrRel (w : World) (d : List (List Av)) (s i : Value) (wr : World) : Prop :=
  ∃ (k : Nat) (S : List UInt8), i = .int .i64 (k : Int) ∧ k ≤ d.length ∧ s = .string ⟨S.toArray⟩ ∧ joinB 44 ((d.map partB).take k) = S ∧ S.length ≤ 500000 ∧ Below w.heap.size w wr
set_option maxRecDepth 100000 in
set_option maxHeartbeats 4000000 in
theorem DPrint_any (v : Value) (d : List (List Av)) (w : World) (h : DnAt w v d) (hok : ∀ r ∈ d, ∀ a ∈ r, a.1.length ≤ 140737488355328) (hdl : d.length ≤ 1000000) (hrl : ∀ r ∈ d, r.length ≤ 140737488355328) :
    Calls Tryz.prog 24 #[v] w fun e w' => e = .returned (.tuple #[.string ⟨(printB d).1.toArray⟩, .int .i64 (printB d).2]) ∧ Below w.heap.size w w' := by
  have HH := Lib.hid h
  have HK := Lib.hid hok
  have HR := Lib.hid hrl
  have kf := fits_any v d w h (by omega)
  have HFIT := Lib.hid kf
  obtain ⟨a1, c1, rfl, hc1, hx1⟩ := id h
  clear hx1 h hok hrl kf
  obtain ⟨q, n, hqn⟩ : ∃ q n, printB d = (q, n) := ⟨_, _, rfl⟩
  rw [hqn]
  simp only
  unfold printB at hqn
  obtain ⟨R, hR⟩ : ∃ R, rightB d = R := ⟨_, rfl⟩
  rw [hR] at hqn
  have hR2 : d.all okR = R := hR
  have HA := Lib.hid hR2
  have HQ := Lib.hid hqn
  clear hR hR2 hqn
  go_enter Tryz.func24, Tryz.ntmps24
  go_wp2_with fail
  go_loopw [4] (fun i wr => ∃ k : Nat, i = .int .i64 (k : Int) ∧ k ≤ d.length ∧ wr = w ∧ Hid ((d.drop k).all okR = R)) (fun i _ => d.length - (RowKit.intOf i).toNat)
  case atStart => exact ⟨0, rfl, by omega, rfl, HA⟩
  case round =>
    obtain ⟨k, rfl, hk, rfl, hans⟩ := hrel
    by_cases hkl : k < d.length
    · obtain ⟨x, hx⟩ : ∃ x, d[k] = x := ⟨_, rfl⟩
      have hxk : d[k]? = some x := by rw [List.getElem?_eq_getElem hkl, hx]
      have hmem : x ∈ d := List.mem_of_getElem? hxk
      have hr0 : d ≠ [] := by intro e; rw [e] at hkl; simp at hkl
      have hans1 := hans.out
      rw [List.drop_eq_getElem_cons hkl, hx, List.all_cons] at hans1
      obtain ⟨a2, cap2, e2, _, hcell⟩ := HH.out
      obtain ⟨g, o, ha, hcc⟩ := hcell hr0
      cases e2
      subst ha
      obtain ⟨u, p1, hu⟩ := hcc k x hxk
      have hxl := HR.out x hmem
      have HKX := Lib.hid (HK.out x hmem)
      obtain ⟨au, cu, hue, hcu, hax⟩ := id hu
      have HAX := Lib.hid hax
      subst hue
      clear hcc hcell hx hxk hmem hr0 hans hax hu
      have i1 : (k : Int) < (d.length : Int) := by omega
      have i3 : decide ((k : Int) < (d.length : Int)) = true := decide_eq_true i1
      by_cases x0 : x = []
      · subst x0
        have e : R = false := by rw [← hans1]; rfl
        subst e
        have hq := HQ.out
        rw [if_pos rfl] at hq
        cases hq
        clear hans1
        go_wp2_with fail
        go_ret2
        exact ⟨rfl, Below.refl _ _⟩
      · have hxp : ((x.length : Int) == 0) = false := by
          have : x.length ≠ 0 := fun e => x0 (List.eq_nil_of_length_eq_zero e)
          rw [beq_eq_false_iff_ne]
          omega
        have hox : okR x = x.all (fun a => isTyB a.1) := by unfold okR; cases x with | nil => exact absurd rfl x0 | cons a t => rfl
        rw [hox] at hans1
        obtain ⟨T, hT⟩ : ∃ T, x.all (fun a => isTyB a.1) = T := ⟨_, rfl⟩
        rw [hT] at hans1
        have HT := Lib.hid hT
        have HS := Lib.hid hans1
        clear hT hans1 hox x0
        go_wp2_with fail
        obtain ⟨wo, hwo⟩ : ∃ wo : World, wo = wr := ⟨_, rfl⟩
        go_loopw [5] (fun i wr2 => ∃ j : Nat, i = .int .i64 (j : Int) ∧ j ≤ x.length ∧ wr2 = wr ∧ Hid ((x.drop j).all (fun a => isTyB a.1) = T)) (fun i _ => x.length - (RowKit.intOf i).toNat)
        case atStart => exact ⟨0, rfl, by omega, rfl, HT⟩
        case round =>
          clear HT
          obtain ⟨j, rfl, hj, rfl, hans⟩ := hrel
          by_cases hjl : j < x.length
          · obtain ⟨y, hy⟩ : ∃ y, x[j] = y := ⟨_, rfl⟩
            have hyj : x[j]? = some y := by rw [List.getElem?_eq_getElem hjl, hy]
            have hx0 : x ≠ [] := by intro e; rw [e] at hjl; simp at hjl
            have hans2 := hans.out
            rw [List.drop_eq_getElem_cons hjl, hy, List.all_cons] at hans2
            obtain ⟨gy, oy, hay, hcy⟩ := HAX.out hx0
            subst hay
            obtain ⟨p3, p4⟩ := hcy j y hyj
            rw [Nat.mul_comm] at p3 p4
            have kt := RIsType_all y.1 wr (HKX.out y (List.mem_of_getElem? hyj))
            have j1 : (j : Int) < (x.length : Int) := by omega
            have j3 : decide ((j : Int) < (x.length : Int)) = true := decide_eq_true j1
            clear hy hyj hx0 hcy hans
            cases hty : isTyB y.1 with
            | true =>
              rw [hty] at kt hans2
              rw [Bool.true_and] at hans2
              have HS2 := Lib.hid hans2
              clear hans2 hty
              go_wp2_with (go_at_call 128; refine Calls.mono (show Calls _ _ _ _ _ from kt) ?_; rintro e w6 ⟨rfl, rfl⟩)
              exact ⟨⟨j + 1, by go_num, by omega, by trivial, HS2⟩, by simp [RowKit.intOf]; omega⟩
            | false =>
              rw [hty] at kt hans2
              have e : T = false := by rw [← hans2]; rfl
              subst e
              have e2 : R = false := by rw [← HS.out]; rfl
              subst e2
              have hq := HQ.out
              rw [if_pos rfl] at hq
              cases hq
              clear hans2 hty
              go_wp2_with (go_at_call 128; refine Calls.mono (show Calls _ _ _ _ _ from kt) ?_; rintro e w6 ⟨rfl, rfl⟩)
              go_ret2
              exact ⟨rfl, Below.refl _ _⟩
          · obtain rfl : j = x.length := by omega
            have e : T = true := by have := hans.out; rw [List.drop_of_length_le (Nat.le_refl _)] at this; rw [← this]; rfl
            subst e
            have j3 : decide (((x.length : Nat) : Int) < (x.length : Int)) = false := decide_eq_false (by omega)
            have HS2 : Hid ((d.drop (k + 1)).all okR = R) := Lib.hid (by have := HS.out; rw [Bool.true_and] at this; exact this)
            clear hans HS
            go_wp2_with fail
            exact ⟨⟨k + 1, by go_num, by omega, by trivial, HS2⟩, by simp [RowKit.intOf]; omega⟩
    · obtain rfl : k = d.length := by omega
      have e : R = true := by have := hans.out; rw [List.drop_of_length_le (Nat.le_refl _)] at this; rw [← this]; rfl
      subst e
      have i3 : decide (((d.length : Nat) : Int) < (d.length : Int)) = false := decide_eq_false (by omega)
      have HTY := Lib.hid (right_ty HA.out)
      have hq := HQ.out
      rw [if_neg (by decide)] at hq
      cases hlong : longB d with
      | true =>
        rw [hlong, if_pos rfl] at hq
        cases hq
        have kf := HFIT.out
        rw [hlong] at kf
        clear hans hlong
        go_wp2_with (go_at_call 119; refine Calls.mono (show Calls _ _ _ _ _ from kf) ?_; rintro e w6 ⟨rfl, rfl⟩)
        go_ret2
        exact ⟨rfl, Below.refl _ _⟩
      | false =>
        rw [hlong, if_neg (by decide)] at hq
        have kf := HFIT.out
        rw [hlong] at kf
        have hno := long_not hlong
        have HNO := Lib.hid hno
        have hd20 := hno.1
        have HQ2 := Lib.hid hq
        clear hans hlong hno hq
        go_wp2_with (go_at_call 119; refine Calls.mono (show Calls _ _ _ _ _ from kf) ?_; rintro e w6 ⟨rfl, rfl⟩)
        obtain ⟨wo, hwo⟩ : ∃ wo : World, wo = wr := ⟨_, rfl⟩
        subst hwo
        go_loopw [6, 7] (fun s i wr => PrRel wo d s i wr) (fun _ i _ => d.length - (RowKit.intOf i).toNat)
        case atStart => exact ⟨0, [], rfl, by omega, rfl, rfl, by simp, Below.refl _ _⟩
        case round =>
          clear kf i3
          obtain ⟨k, S, rfl, hk, rfl, hS, hSl, hbe⟩ := hrel
          by_cases hkl : k < d.length
          · obtain ⟨x, hx⟩ : ∃ x, d[k]? = some x := ⟨d[k], List.getElem?_eq_getElem hkl⟩
            have hmem := List.mem_of_getElem? hx
            obtain ⟨hx4, hxv⟩ := HNO.out.2 x hmem
            have hr0 : d ≠ [] := by intro e; rw [e] at hkl; simp at hkl
            obtain ⟨a2, c2, e2, _, hcell⟩ := HH.out.below hbe
            obtain ⟨g, o, ha, hcc⟩ := hcell hr0
            cases e2
            subst ha
            obtain ⟨u, p1, hu⟩ := hcc k x hx
            have kp := rPart_any u x wr hu hx4 (fun a ha => ⟨HTY.out x hmem a ha, hxv a ha⟩)
            obtain ⟨au, cu, hue, _, _⟩ := hu
            subst hue
            have hpl := partB_len4 x hx4 (fun a ha => ⟨HTY.out x hmem a ha, hxv a ha⟩)
            have hj := joinB_take 44 (d.map partB) k (partB x) (by rw [List.getElem?_map, hx]; rfl)
            rw [hS] at hj
            have hlen : (joinB 44 ((d.map partB).take (k + 1))).length ≤ 500000 := by
              have h1 := joinB_length 44 20000 ((d.map partB).take (k + 1)) (fun l hl => by
                obtain ⟨r, hr, rfl⟩ := List.mem_map.1 (List.mem_of_mem_take hl)
                exact partB_len4 r (HNO.out.2 r hr).1 (fun a ha => ⟨HTY.out r hr a ha, (HNO.out.2 r hr).2 a ha⟩))
              have h2 : ((d.map partB).take (k + 1)).length * (20000 + 1) ≤ 20 * (20000 + 1) := Nat.mul_le_mul_right _ (by rw [List.length_take, List.length_map]; omega)
              omega
            obtain ⟨V, hV⟩ : ∃ V, partB x = V := ⟨_, rfl⟩
            rw [hV] at kp hpl hj
            have HJ := Lib.hid hj
            have HLN := Lib.hid hlen
            have g3 : (k : Int) < (d.length : Int) := by omega
            have g4 : decide ((k : Int) < (d.length : Int)) = true := decide_eq_true g3
            have hS0' : k = 0 → joinB 44 ((d.map partB).take k) = S := fun _ => hS
            clear hcc hcell hj hlen hV hS hx hr0 hmem hxv
            by_cases hk0 : k = 0
            · subst hk0
              have hS0 : S = [] := (hS0' rfl).symm
              clear hS0'
              have g5 : decide ((0 : Int) < ((0 : Nat) : Int)) = false := by decide
              have e3 : (⟨S.toArray⟩ ++ ⟨V.toArray⟩ : ByteArray) = ⟨(S ++ V).toArray⟩ := app_mk _ _
              have sz3 : ¬ (9223372036854775807 < S.length + V.length) := by omega
              have HE := Lib.hid (show joinB 44 ((d.map partB).take (0 + 1)) = S ++ V by rw [HJ.out, if_pos rfl, hS0]; rfl)
              rw [Nat.add_zero] at p1
              clear HJ hS0
              go_wp2_with (go_at_call 129; refine Calls.mono (show Calls _ _ _ _ _ from kp) ?_; rintro e w4 ⟨rfl, hb4⟩)
              go_roundw
              case rel => exact ⟨0 + 1, _, by go_num, by omega, rfl, HE.out, by rw [← HE.out]; exact HLN.out, below_ext hbe hb4⟩
              case measure => simp [RowKit.intOf]; omega
            · clear hS0'
              have g5 : decide ((0 : Int) < (k : Int)) = true := decide_eq_true (by omega)
              have e43 : (⟨S.toArray⟩ ++ ⟨#[44]⟩ : ByteArray) = ⟨(S ++ [44]).toArray⟩ := app_mk S [44]
              obtain ⟨T, hT⟩ : ∃ T, S ++ [44] = T := ⟨_, rfl⟩
              have hTl : T.length ≤ 500001 := by rw [← hT]; simp; omega
              rw [hT] at e43
              have e3 : (⟨T.toArray⟩ ++ ⟨V.toArray⟩ : ByteArray) = ⟨(T ++ V).toArray⟩ := app_mk _ _
              have sz0 : ¬ (9223372036854775807 < S.length + 1) := by omega
              have sz3 : ¬ (9223372036854775807 < T.length + V.length) := by omega
              have HE := Lib.hid (show joinB 44 ((d.map partB).take (k + 1)) = T ++ V by rw [HJ.out, if_neg hk0, ← hT])
              clear HJ hT
              go_wp2_with (go_at_call 129; refine Calls.mono (show Calls _ _ _ _ _ from kp) ?_; rintro e w4 ⟨rfl, hb4⟩)
              go_roundw
              case rel => exact ⟨k + 1, _, by go_num, by omega, rfl, HE.out, by rw [← HE.out]; exact HLN.out, below_ext hbe hb4⟩
              case measure => simp [RowKit.intOf]; omega
          · obtain rfl : k = d.length := by omega
            have g4 : decide (((d.length : Nat) : Int) < (d.length : Int)) = false := decide_eq_false (by omega)
            have e : joinB 44 (d.map partB) = S := by rw [← hS, List.take_of_length_le (by simp)]
            have hq := HQ2.out
            rw [e] at hq
            clear hS e
            by_cases hbig : 65536 < S.length
            · rw [if_pos hbig] at hq
              cases hq
              have q1 : decide ((65536 : Int) < (S.length : Int)) = true := decide_eq_true (by omega)
              go_wp2_with fail
              go_ret2
              exact ⟨rfl, hbe⟩
            · rw [if_neg hbig] at hq
              have q1 : decide ((65536 : Int) < (S.length : Int)) = false := decide_eq_false (by omega)
              cases hq
              go_wp2_with fail
              go_ret2
              exact ⟨rfl, hbe⟩
end Go.Proofs.YtegigcneimjimaaGreatDoor
