/- chanceryref1: Rune, Good, Text and their hex. -/
import Derived.Test.YtegigcneimjimaaGreatDoorPlainRu
import Derived.Test.YtegigcneimjimaaGreatDoorBase
import Derived.Test.YtegigcneimjimaaGreatDoorDnO
import Derived.Test.YtegigcneimjimaaGreatDoorRf4C
import Derived.Test.YtegigcneimjimaaGreatDoorRf4F
import Derived.Deep.CutRange
import Derived.IntWalk
namespace Go.Proofs.YtegigcneimjimaaGreatDoor
open Go.RowKit Go.Lib

set_option maxRecDepth 100000 in
set_option maxHeartbeats 4000000 in
theorem RefRune_any (l : List UInt8) (i : Nat) (w : World) (hi : i < l.length) (hl : l.length ≤ 1099511627776) :
    Calls Tryz.prog 281 #[.string ⟨l.toArray⟩, .int .i64 i] w fun e w' => e = .returned (decV (l.drop i)) ∧ w = w' := by
  obtain ⟨d, hd⟩ : ∃ d : Nat → Nat, ∀ k, (l.getD (i + k) 0).toNat = d k := ⟨_, fun _ => rfl⟩
  have hlt : ∀ k, d k < 256 := fun k => by rw [← hd]; exact UInt8.toNat_lt _
  have hR := decV_spec l i d hd
  have gd : ∀ (k : Nat) (h : i + k < (⟨l.toArray⟩ : ByteArray).size), ((⟨l.toArray⟩ : ByteArray)[i + k]'h).toNat = d k := by
    intro k h
    rw [← hd, List.getD_eq_getElem?_getD, List.getElem?_eq_getElem (by rw [Lib.size_mk] at h; exact h)]
    rfl
  have g0 : ∀ (h : i < (⟨l.toArray⟩ : ByteArray).size), ((⟨l.toArray⟩ : ByteArray)[i]'h).toNat = d 0 := fun h => gd 0 h
  have h0 := hlt 0
  obtain ⟨R, hRR⟩ : ∃ R, decV (l.drop i) = R := ⟨_, rfl⟩
  rw [hRR] at hR ⊢
  clear hRR hd
  obtain ⟨b0, hb0⟩ : ∃ b0, d 0 = b0 := ⟨_, rfl⟩
  rw [hb0] at h0 hR
  simp only [hb0] at g0
  have HLT := Lib.hid hlt
  have GD := Lib.hid gd
  clear hlt gd hb0
  by_cases ha : b0 < 128
  · obtain rfl := hR.asc ha
    clear hR GD HLT
    go_enter Tryz.func281, Tryz.ntmps281
    go_wp2_with fail
    go_ret2
    exact ⟨rfl, rfl⟩
  · by_cases hE : (128 ≤ b0 ∧ b0 ≤ 193) ∨ 245 ≤ b0
    · obtain rfl := hR.none_ hE
      clear hR GD HLT
      unfold badR
      rcases hE with hE | hE
      · go_enter Tryz.func281, Tryz.ntmps281
        go_wp2_with fail
        go_ret2
        exact ⟨rfl, rfl⟩
      · go_enter Tryz.func281, Tryz.ntmps281
        go_wp2_with fail
        go_ret2
        exact ⟨rfl, rfl⟩

    by_cases k2 : 194 ≤ b0 ∧ b0 ≤ 223
    · obtain ⟨k1, k2⟩ := k2
      have hS := hR.two k1 k2
      clear hR
      by_cases hn : i + 2 ≤ l.length
      · have HS := Lib.hid hS
        clear hS
        have hc0 : (0 : Int) ≤ (b0 : Int) - 192 := by omega
        have hc1 : (b0 : Int) - 192 ≤ 31 := by omega
        have x1 : decide ((i : Int) < 0) = false := decide_eq_false (by omega)
        have x2 : decide ((b0 : Int) < 128) = false := decide_eq_false (by omega)
        have x3 : decide ((b0 : Int) ≤ 223) = true := decide_eq_true (by omega)
        have x9 : decide ((l.length : Int) < (i : Int) + 2) = false := decide_eq_false (by omega)
        go_enter Tryz.func281, Tryz.ntmps281
        go_wp2_with fail
        clear x1 x2 x9 x3
        go_loop [8, 10] (fun v k => VRelU ((b0 : Int) - 192) d 2 v k) (fun _ k => 4 - (RowKit.intOf k).toNat)
        case atStart => exact ⟨1, rfl, by omega, by omega, rfl, fun t h1 h2 => by omega⟩
        case round =>
          obtain ⟨j, rfl, hj1, hj2, rfl, hc⟩ := hrel
          have hb := vv_bound ((b0 : Int) - 192) d hc0 hc1 j (by omega) hc
          have hsucc := vv_succ ((b0 : Int) - 192) d j hj1
          obtain ⟨v, hv⟩ : ∃ v, vv ((b0 : Int) - 192) d j = v := ⟨_, rfl⟩
          rw [hv] at hb hsucc ⊢
          obtain ⟨hb1, hb2⟩ := hb
          have HC := Lib.hid hc
          have HV := Lib.hid hv
          have HU := Lib.hid hsucc
          clear hc hv hsucc
          by_cases hjN : j < 2
          · have hgj := GD.out j
            obtain ⟨dj, hdj⟩ : ∃ dj, d j = dj := ⟨_, rfl⟩
            simp only [hdj] at hgj
            have hdl : dj < 256 := by rw [← hdj]; exact HLT.out j
            have HD := Lib.hid hdj
            clear hdj
            by_cases hct : 128 ≤ dj ∧ dj ≤ 191
            · obtain ⟨hct1, hct2⟩ := hct
              go_wp2_with fail
              go_round
              case rel =>
                refine ⟨j + 1, by go_num, by omega, by omega, ?_, fun t h1 h2 => ?_⟩
                · rw [HU.out, HD.out]
                · by_cases e : t = j
                  · rw [e, HD.out]; exact ⟨hct1, hct2⟩
                  · exact HC.out t h1 (by omega)
              case measure => simp [RowKit.intOf]; omega
            · have hRb := HS.out.byte j hj1 hjN (by rw [HD.out]; omega)
              unfold badR at hRb
              subst hRb
              clear HS
              have hct2 : dj < 128 ∨ 191 < dj := by omega
              clear hct
              rcases hct2 with hct2 | hct2
              · go_wp2_with fail
                go_ret2
                exact ⟨rfl, rfl⟩
              · go_wp2_with fail
                go_ret2
                exact ⟨rfl, rfl⟩
          · obtain rfl : j = 2 := by omega
            have hno := HS.out.no (by omega) HC.out
            have hyes := HS.out.yes (by omega) HC.out
            rw [HV.out] at hno hyes
            have HNO := Lib.hid hno
            have HYE := Lib.hid hyes
            clear hno hyes HS HV HU HC GD HLT
            by_cases hbad : v < 128 ∨ 1114111 < v ∨ (55296 ≤ v ∧ v ≤ 57343)
            · have hRb := HNO.out hbad
              unfold badR at hRb
              subst hRb
              clear HNO HYE
              by_cases q1 : v < 128
              · go_wp2_with fail
                go_ret2
                exact ⟨rfl, rfl⟩
              · by_cases q2 : 1114111 < v
                · go_wp2_with fail
                  go_ret2
                  exact ⟨rfl, rfl⟩
                · have q3 : 55296 ≤ v := by omega
                  have q4 : v ≤ 57343 := by omega
                  go_wp2_with fail
                  go_ret2
                  exact ⟨rfl, rfl⟩
            · obtain rfl := HYE.out hbad
              clear HNO HYE
              have q1 : 128 ≤ v := by omega
              have q2 : v ≤ 1114111 := by omega
              have q3 : v < 55296 ∨ 57343 < v := by omega
              clear hbad
              rcases q3 with q3 | q3
              · go_wp2_with fail
                go_ret2
                exact ⟨rfl, rfl⟩
              · go_wp2_with fail
                go_ret2
                exact ⟨rfl, rfl⟩
      · obtain rfl := hS.short (by omega)
        clear hS GD HLT
        unfold badR
        go_enter Tryz.func281, Tryz.ntmps281
        go_wp2_with fail
        go_ret2
        exact ⟨rfl, rfl⟩
    by_cases k3 : 224 ≤ b0 ∧ b0 ≤ 239
    · obtain ⟨k1, k2⟩ := k3
      have hS := hR.three k1 k2
      clear hR
      by_cases hn : i + 3 ≤ l.length
      · have HS := Lib.hid hS
        clear hS
        have hc0 : (0 : Int) ≤ (b0 : Int) - 224 := by omega
        have hc1 : (b0 : Int) - 224 ≤ 31 := by omega
        have x1 : decide ((i : Int) < 0) = false := decide_eq_false (by omega)
        have x2 : decide ((b0 : Int) < 128) = false := decide_eq_false (by omega)
        have x3 : decide ((b0 : Int) ≤ 223) = false := decide_eq_false (by omega)
        have x4 : decide ((b0 : Int) ≤ 239) = true := decide_eq_true (by omega)
        have x9 : decide ((l.length : Int) < (i : Int) + 3) = false := decide_eq_false (by omega)
        go_enter Tryz.func281, Tryz.ntmps281
        go_wp2_with fail
        clear x1 x2 x9 x3 x4
        go_loop [8, 10] (fun v k => VRelU ((b0 : Int) - 224) d 3 v k) (fun _ k => 4 - (RowKit.intOf k).toNat)
        case atStart => exact ⟨1, rfl, by omega, by omega, rfl, fun t h1 h2 => by omega⟩
        case round =>
          obtain ⟨j, rfl, hj1, hj2, rfl, hc⟩ := hrel
          have hb := vv_bound ((b0 : Int) - 224) d hc0 hc1 j (by omega) hc
          have hsucc := vv_succ ((b0 : Int) - 224) d j hj1
          obtain ⟨v, hv⟩ : ∃ v, vv ((b0 : Int) - 224) d j = v := ⟨_, rfl⟩
          rw [hv] at hb hsucc ⊢
          obtain ⟨hb1, hb2⟩ := hb
          have HC := Lib.hid hc
          have HV := Lib.hid hv
          have HU := Lib.hid hsucc
          clear hc hv hsucc
          by_cases hjN : j < 3
          · have hgj := GD.out j
            obtain ⟨dj, hdj⟩ : ∃ dj, d j = dj := ⟨_, rfl⟩
            simp only [hdj] at hgj
            have hdl : dj < 256 := by rw [← hdj]; exact HLT.out j
            have HD := Lib.hid hdj
            clear hdj
            by_cases hct : 128 ≤ dj ∧ dj ≤ 191
            · obtain ⟨hct1, hct2⟩ := hct
              go_wp2_with fail
              go_round
              case rel =>
                refine ⟨j + 1, by go_num, by omega, by omega, ?_, fun t h1 h2 => ?_⟩
                · rw [HU.out, HD.out]
                · by_cases e : t = j
                  · rw [e, HD.out]; exact ⟨hct1, hct2⟩
                  · exact HC.out t h1 (by omega)
              case measure => simp [RowKit.intOf]; omega
            · have hRb := HS.out.byte j hj1 hjN (by rw [HD.out]; omega)
              unfold badR at hRb
              subst hRb
              clear HS
              have hct2 : dj < 128 ∨ 191 < dj := by omega
              clear hct
              rcases hct2 with hct2 | hct2
              · go_wp2_with fail
                go_ret2
                exact ⟨rfl, rfl⟩
              · go_wp2_with fail
                go_ret2
                exact ⟨rfl, rfl⟩
          · obtain rfl : j = 3 := by omega
            have hno := HS.out.no (by omega) HC.out
            have hyes := HS.out.yes (by omega) HC.out
            rw [HV.out] at hno hyes
            have HNO := Lib.hid hno
            have HYE := Lib.hid hyes
            clear hno hyes HS HV HU HC GD HLT
            by_cases hbad : v < 2048 ∨ 1114111 < v ∨ (55296 ≤ v ∧ v ≤ 57343)
            · have hRb := HNO.out hbad
              unfold badR at hRb
              subst hRb
              clear HNO HYE
              by_cases q1 : v < 2048
              · go_wp2_with fail
                go_ret2
                exact ⟨rfl, rfl⟩
              · by_cases q2 : 1114111 < v
                · go_wp2_with fail
                  go_ret2
                  exact ⟨rfl, rfl⟩
                · have q3 : 55296 ≤ v := by omega
                  have q4 : v ≤ 57343 := by omega
                  go_wp2_with fail
                  go_ret2
                  exact ⟨rfl, rfl⟩
            · obtain rfl := HYE.out hbad
              clear HNO HYE
              have q1 : 2048 ≤ v := by omega
              have q2 : v ≤ 1114111 := by omega
              have q3 : v < 55296 ∨ 57343 < v := by omega
              clear hbad
              rcases q3 with q3 | q3
              · go_wp2_with fail
                go_ret2
                exact ⟨rfl, rfl⟩
              · go_wp2_with fail
                go_ret2
                exact ⟨rfl, rfl⟩
      · obtain rfl := hS.short (by omega)
        clear hS GD HLT
        unfold badR
        go_enter Tryz.func281, Tryz.ntmps281
        go_wp2_with fail
        go_ret2
        exact ⟨rfl, rfl⟩
    by_cases k4 : 240 ≤ b0 ∧ b0 ≤ 244
    · obtain ⟨k1, k2⟩ := k4
      have hS := hR.four k1 k2
      clear hR
      by_cases hn : i + 4 ≤ l.length
      · have HS := Lib.hid hS
        clear hS
        have hc0 : (0 : Int) ≤ (b0 : Int) - 240 := by omega
        have hc1 : (b0 : Int) - 240 ≤ 31 := by omega
        have x1 : decide ((i : Int) < 0) = false := decide_eq_false (by omega)
        have x2 : decide ((b0 : Int) < 128) = false := decide_eq_false (by omega)
        have x3 : decide ((b0 : Int) ≤ 223) = false := decide_eq_false (by omega)
        have x4 : decide ((b0 : Int) ≤ 239) = false := decide_eq_false (by omega)
        have x5 : decide ((b0 : Int) ≤ 244) = true := decide_eq_true (by omega)
        have x9 : decide ((l.length : Int) < (i : Int) + 4) = false := decide_eq_false (by omega)
        go_enter Tryz.func281, Tryz.ntmps281
        go_wp2_with fail
        clear x1 x2 x9 x3 x4 x5
        go_loop [8, 10] (fun v k => VRelU ((b0 : Int) - 240) d 4 v k) (fun _ k => 4 - (RowKit.intOf k).toNat)
        case atStart => exact ⟨1, rfl, by omega, by omega, rfl, fun t h1 h2 => by omega⟩
        case round =>
          obtain ⟨j, rfl, hj1, hj2, rfl, hc⟩ := hrel
          have hb := vv_bound ((b0 : Int) - 240) d hc0 hc1 j (by omega) hc
          have hsucc := vv_succ ((b0 : Int) - 240) d j hj1
          obtain ⟨v, hv⟩ : ∃ v, vv ((b0 : Int) - 240) d j = v := ⟨_, rfl⟩
          rw [hv] at hb hsucc ⊢
          obtain ⟨hb1, hb2⟩ := hb
          have HC := Lib.hid hc
          have HV := Lib.hid hv
          have HU := Lib.hid hsucc
          clear hc hv hsucc
          by_cases hjN : j < 4
          · have hgj := GD.out j
            obtain ⟨dj, hdj⟩ : ∃ dj, d j = dj := ⟨_, rfl⟩
            simp only [hdj] at hgj
            have hdl : dj < 256 := by rw [← hdj]; exact HLT.out j
            have HD := Lib.hid hdj
            clear hdj
            by_cases hct : 128 ≤ dj ∧ dj ≤ 191
            · obtain ⟨hct1, hct2⟩ := hct
              go_wp2_with fail
              go_round
              case rel =>
                refine ⟨j + 1, by go_num, by omega, by omega, ?_, fun t h1 h2 => ?_⟩
                · rw [HU.out, HD.out]
                · by_cases e : t = j
                  · rw [e, HD.out]; exact ⟨hct1, hct2⟩
                  · exact HC.out t h1 (by omega)
              case measure => simp [RowKit.intOf]; omega
            · have hRb := HS.out.byte j hj1 hjN (by rw [HD.out]; omega)
              unfold badR at hRb
              subst hRb
              clear HS
              have hct2 : dj < 128 ∨ 191 < dj := by omega
              clear hct
              rcases hct2 with hct2 | hct2
              · go_wp2_with fail
                go_ret2
                exact ⟨rfl, rfl⟩
              · go_wp2_with fail
                go_ret2
                exact ⟨rfl, rfl⟩
          · obtain rfl : j = 4 := by omega
            have hno := HS.out.no (by omega) HC.out
            have hyes := HS.out.yes (by omega) HC.out
            rw [HV.out] at hno hyes
            have HNO := Lib.hid hno
            have HYE := Lib.hid hyes
            clear hno hyes HS HV HU HC GD HLT
            by_cases hbad : v < 65536 ∨ 1114111 < v ∨ (55296 ≤ v ∧ v ≤ 57343)
            · have hRb := HNO.out hbad
              unfold badR at hRb
              subst hRb
              clear HNO HYE
              by_cases q1 : v < 65536
              · go_wp2_with fail
                go_ret2
                exact ⟨rfl, rfl⟩
              · by_cases q2 : 1114111 < v
                · go_wp2_with fail
                  go_ret2
                  exact ⟨rfl, rfl⟩
                · have q3 : 55296 ≤ v := by omega
                  have q4 : v ≤ 57343 := by omega
                  go_wp2_with fail
                  go_ret2
                  exact ⟨rfl, rfl⟩
            · obtain rfl := HYE.out hbad
              clear HNO HYE
              have q1 : 65536 ≤ v := by omega
              have q2 : v ≤ 1114111 := by omega
              have q3 : 57343 < v := by omega
              clear hbad
              go_wp2_with fail
              go_ret2
              exact ⟨rfl, rfl⟩
      · obtain rfl := hS.short (by omega)
        clear hS GD HLT
        unfold badR
        go_enter Tryz.func281, Tryz.ntmps281
        go_wp2_with fail
        go_ret2
        exact ⟨rfl, rfl⟩
    omega
def goodB (l : List UInt8) : Bool := !decide ((decodeL l).1 = 65533 ∧ (decodeL l).2 = 1)
set_option maxHeartbeats 1000000 in
theorem RefGood_any (l : List UInt8) (i : Nat) (w : World) (hi : i < l.length) (hl : l.length ≤ 1099511627776) :
    Calls Tryz.prog 280 #[.string ⟨l.toArray⟩, .int .i64 i] w fun e w' => e = .returned (.bool (goodB (l.drop i))) ∧ w = w' := by
  have c1 := RefRune_any l i w hi hl
  have hp := decode_pos (l.drop i) (by intro h; have := congrArg List.length h; rw [List.length_drop] at this; simp at this; omega)
  unfold decV at c1
  unfold goodB
  generalize decodeL (l.drop i) = d at c1 hp
  obtain ⟨r, n⟩ := d
  simp only at c1 hp
  obtain ⟨hp1, hp2⟩ := hp
  obtain ⟨G, hG⟩ : ∃ G, (!decide (r = 65533 ∧ n = 1)) = G := ⟨_, rfl⟩
  simp only [hG]
  have HG := Lib.hid hG
  clear hG hp2
  by_cases h1 : 1 < n
  · have e1 : decide ((1 : Int) < (n : Int)) = true := decide_eq_true (by omega)
    go_enter Tryz.func280, Tryz.ntmps280
    go_wp2_with fail
    refine c1.mono ?_
    rintro e w' ⟨rfl, rfl⟩
    go_wp2_with fail
    go_ret
    refine ⟨ret_bool ?_, rfl⟩
    rw [← HG.out]
    simp
    omega
  · obtain rfl : n = 1 := by omega
    by_cases h2 : r = 65533
    · subst h2
      go_enter Tryz.func280, Tryz.ntmps280
      go_wp2_with fail
      refine c1.mono ?_
      rintro e w' ⟨rfl, rfl⟩
      go_wp2_with fail
      go_ret
      refine ⟨ret_bool ?_, rfl⟩
      rw [← HG.out]
      rfl
    · have e2 : ((r : Int) != 65533) = true := by rw [bne_iff_ne]; omega
      go_enter Tryz.func280, Tryz.ntmps280
      go_wp2_with fail
      refine c1.mono ?_
      rintro e w' ⟨rfl, rfl⟩
      go_wp2_with fail
      go_ret
      refine ⟨ret_bool ?_, rfl⟩
      rw [← HG.out]
      simp [h2]

set_option maxHeartbeats 1000000 in
theorem RefText_any (l : List UInt8) (w : World) (hl : l.length ≤ 1099511627776) :
    Calls Tryz.prog 257 #[.string ⟨l.toArray⟩] w fun e w' => e = .returned (.bool (validD l)) ∧ w = w' := by
  obtain ⟨V, hV⟩ : ∃ V, validD l = V := ⟨_, rfl⟩
  rw [hV]
  have HV := Lib.hid hV
  clear hV
  go_enter Tryz.func257, Tryz.ntmps257
  go_wp2_with fail
  go_loop [3] (fun i => ∃ k : Nat, i = .int .i64 k ∧ k ≤ l.length ∧ Hid (validD (l.drop k) = V)) (fun i => l.length - (RowKit.intOf i).toNat)
  case atStart => exact ⟨0, rfl, by omega, Lib.hid (by simpa using HV.out)⟩
  case round =>
    obtain ⟨k, rfl, hk, HK⟩ := hrel
    by_cases hlt : k < l.length
    · have c1 := RefGood_any l k w hlt hl
      have c2 := RefRune_any l k w hlt hl
      have hne : l.drop k ≠ [] := by intro h; have := congrArg List.length h; rw [List.length_drop] at this; simp at this; omega
      have hp := decode_pos (l.drop k) hne
      have hs := HK.out
      rw [validD_step _ hne] at hs
      unfold decV at c2
      unfold goodB at c1
      rw [List.length_drop] at hp
      rw [List.drop_drop] at hs
      generalize decodeL (l.drop k) = d at c1 c2 hp hs
      obtain ⟨r, n⟩ := d
      simp only at c1 c2 hp hs
      obtain ⟨hp1, hp2⟩ := hp
      by_cases hb : r = 65533 ∧ n = 1
      · rw [if_pos hb] at hs
        subst hs
        rw [decide_eq_true hb] at c1
        clear HK c2
        go_wp2_with fail
        refine c1.mono ?_
        rintro e w' ⟨rfl, rfl⟩
        go_wp2_with fail
        go_ret
        exact ⟨rfl, rfl⟩
      · rw [if_neg hb] at hs
        rw [decide_eq_false hb] at c1
        have HS := Lib.hid hs
        clear HK hs hb
        go_wp2_with fail
        refine c1.mono ?_
        rintro e w' ⟨rfl, rfl⟩
        go_wp2_with fail
        refine c2.mono ?_
        rintro e w' ⟨rfl, rfl⟩
        go_wp2_with fail
        go_round
        case rel => exact ⟨k + n, by go_num, by omega, HS⟩
        case measure => simp [RowKit.intOf]; omega
    · have hs := HK.out
      rw [List.drop_of_length_le (by omega)] at hs
      have hs2 : V = true := by rw [← hs]; rfl
      subst hs2
      clear HK hs
      go_wp2_with fail
      go_ret
      exact ⟨rfl, rfl⟩

end Go.Proofs.YtegigcneimjimaaGreatDoor
namespace Go.Proofs.YtegigcneimjimaaGreatDoor
open Go.RowKit Go.Lib

set_option maxRecDepth 100000 in
set_option maxHeartbeats 2000000 in
theorem RHex_any (s : List UInt8) (w : World) (hs : s.length ≤ 1099511627776) :
    Calls Tryz.prog 258 #[.string ⟨s.toArray⟩] w fun e w' => e = .returned (.string ⟨(hexL s).toArray⟩) ∧ Below w.heap.size w w' := by
  obtain ⟨H, hH⟩ : ∃ H, 2 * s.length = H := ⟨_, rfl⟩
  have q3 : 2 * (s.length : Int) = (H : Int) := by omega
  obtain ⟨ANS, hA⟩ : ∃ ANS, hexL s = ANS := ⟨_, rfl⟩
  rw [hA]
  have HA := Lib.hid hA
  clear hA
  obtain ⟨i0, hi0, hz0, hz1, hz2⟩ := info_parts Tryz.infoByte
  go_enter Tryz.func258, Tryz.ntmps258
  go_wp2_with (refine wpList_make_own _ rfl (.const (.int .i64 0)) (.tmp 7) 153 rfl w.heap.size 5 i0 (.int .u8 0) 1 Tryz.underlying153 hi0 hz0 hz1 .i64 .i64 (H : Int) H rfl rfl rfl ?_ ?_ (Nat.le_refl _) ?_)
  case refine_1 => rw [hz2]; omega
  case refine_2 => unfold maxLen; omega
  intro w1 ho1 hg1
  have hb1 : Below w.heap.size w w1 := (Below.refl _ w).grown hg1 (Nat.le_refl _) (fun k hk => by cases hk)
  go_wp2_with fail
  go_loopw [3, 4] (fun v i wr => HexRel w s ANS v i wr) (fun _ i _ => s.length - (RowKit.intOf i).toNat)
  case atStart => exact ⟨0, [], rfl, by omega, by simp, ho1, hb1, HA.out⟩
  case round =>
    clear ho1 hg1 hb1 HA q3 hH
    obtain ⟨k, o, rfl, hk, ho, hown, hbe, hans⟩ := hrel
    have hsz := hbe.size
    by_cases hkl : k < s.length
    · obtain ⟨x, hx⟩ : ∃ x, s[k] = x := ⟨_, rfl⟩
      have hbx : ∀ h', (⟨s.toArray⟩ : ByteArray)[k]'h' = x := fun h' => hx
      have hx8 := UInt8.toNat_lt x
      rw [List.drop_eq_getElem_cons hkl, hx, hexL_cons] at hans
      obtain ⟨n1, hn1⟩ : ∃ n, x.toNat / 16 = n := ⟨_, rfl⟩
      obtain ⟨n2, hn2⟩ : ∃ n, x.toNat % 16 = n := ⟨_, rfl⟩
      rw [hn1, hn2] at hans
      have hl1 : n1 < 16 := by omega
      have hl2 : n2 < 16 := by omega
      have HS := Lib.hid hans
      clear hans
      have g3 : (k : Int) < (s.length : Int) := by omega
      have g4 : decide ((k : Int) < (s.length : Int)) = true := decide_eq_true g3
      have d1 := digits_at n1 hl1
      have d2 := digits_at n2 hl2
      go_wp2
      have e1 : (x.toNat : Int) / 16 = (n1 : Int) := by omega
      have e2 : Int.tmod (x.toNat : Int) 16 = (n2 : Int) := by rw [Int.tmod_eq_emod_of_nonneg (by omega)]; omega
      clear hn1 hn2 hx
      have e1w : IntKind.u8.wrap (n1 : Int) = (n1 : Int) := IntWalk.u8_in _ (by omega)
      have e1b : (n1 : Int) < 16 := by omega
      have e2b : (n2 : Int) < 16 := by omega
      have hownD : wr.drew.ownsRow w.heap.size 5 1 u3 o.length (bV o) := hown
      have HO := Lib.hid ho
      have ho2 : o.length ≤ 2 * k := by omega
      clear ho
      go_region_law (refine step_append_lies _ (by rfl) _ _ _ (by rfl) w.heap.size 5 i0 _ 1 1 Tryz.underlying153 hi0 hz0 hz1 hz2 rfl (by omega) u3 o.length (bV o) (by rfl) (hownD.alloc _) ⟨wr.heap.size, 0, none⟩ 2 2 [.int .u8 ((hexC n1).toNat : Int), .int .u8 ((hexC n2).toNat : Int)] (by rfl) (by rfl) (cells_two _ _ _ _) (by simp [Value.oneCell']) (by omega) (by unfold maxLen; omega) (by omega) (by simp; omega) (wr.heap.size + 1) (by simp) ?_; intro g7 cap7 w7 ho7 hg7 hat7 hlt7)
      all_goals
        go_wp2_with fail
        go_roundw
        case rel =>
          refine ⟨k + 1, o ++ [hexC n1, hexC n2], by go_num, by omega, by rw [List.length_append, HO.out]; simp; omega, ?_, ?_, by rw [← HS.out]; simp⟩
          · rw [List.length_append, bV_append]
            exact ho7
          · exact ((Below.drew hbe).alloc (by simpa using hsz) _).grown hg7 (by simp; omega) (fun b hb => (hown.lt b hb).1)
        case measure => simp [RowKit.intOf]; omega
    · obtain rfl : k = s.length := by omega
      rw [List.drop_of_length_le (Nat.le_refl _)] at hans
      simp only [hexL, List.flatMap_nil, List.append_nil] at hans
      subst hans
      have hcv := run_str_own (P := Tryz.prog) wr 153 9 5 w.heap.size u3 o Tryz.underlying153 Tryz.underlying5 Tryz.underlying9 hown
      go_wp2_with fail
      go_ret
      exact ⟨rfl, hbe⟩
/-- Is a byte of a value written behind a backslash? -/
def escE (x : UInt8) (z t : Bool) : Bool := decide (x ∈ specL) || (z && (x == 35 || x == 32)) || (t && x == 32)
theorem wrB_step (z : Bool) (x : UInt8) (t : List UInt8) (h : x ≠ 0) : wrB z (x :: t) = (if escE x z (decide (t = [])) then [92, x] else [x]) ++ wrB false t := by
  rw [wrB, if_neg h]
  congr 1
  unfold escE
  by_cases h1 : x ∈ specL <;> by_cases h2 : x = 35 <;> by_cases h3 : x = 32 <;> cases z <;> by_cases h4 : t = [] <;> simp [h1, h2, h3, h4]
set_option maxRecDepth 100000 in
set_option maxHeartbeats 4000000 in
theorem rvalue_valid (s : List UInt8) (w : World) (hs : s.length ≤ 1099511627776) (hv : validD s = true) :
    Calls Tryz.prog 216 #[.string ⟨s.toArray⟩] w fun e w' => e = .returned (.string ⟨(wrB true s).toArray⟩) ∧ Below w.heap.size w w' := by
  have k1 := RefText_any s w hs
  rw [hv] at k1
  obtain ⟨ANS, hA⟩ : ∃ ANS, wrB true s = ANS := ⟨_, rfl⟩
  rw [hA]
  have HA := Lib.hid hA
  clear hA hv
  obtain ⟨i0, hi0, hz0, hz1, hz2⟩ := info_parts Tryz.infoByte
  go_enter Tryz.func216, Tryz.ntmps216
  go_wp2_with (go_at_call 257; refine Calls.mono (show Calls _ _ _ _ _ from k1) ?_; rintro e w1 ⟨rfl, rfl⟩)
  go_loopw [3, 4] (fun v i wr => WRel w s ANS v i wr) (fun _ i _ => s.length - (RowKit.intOf i).toNat)
  case atStart => exact ⟨0, [], rfl, by omega, by simp, World.ownsRow_nil _ _ _ _, Below.refl _ _, HA.out⟩
  case round =>
    clear HA k1
    obtain ⟨k, o, rfl, hk, ho, hown, hbe, hans⟩ := hrel
    have hsz := hbe.size
    by_cases hkl : k < s.length
    · obtain ⟨x, hx⟩ : ∃ x, s[k] = x := ⟨_, rfl⟩
      have hbx : ∀ h', (⟨s.toArray⟩ : ByteArray)[k]'h' = x := fun h' => hx
      rw [List.drop_eq_getElem_cons hkl, hx] at hans
      have x0b : ((x.toNat : Int) == 0) = (x == 0) := (beq_nat _ 0).trans (u8_beq x 0 (by decide)).symm
      have g3 : (k : Int) < (s.length : Int) := by omega
      have g4 : decide ((k : Int) < (s.length : Int)) = true := decide_eq_true g3
      by_cases x0 : x = 0
      · rw [show (x == 0) = true by simpa using x0] at x0b
        rw [wrB, if_pos x0] at hans
        have HS := Lib.hid hans
        clear hans hx
        go_wp2_with (at_builtin; refine Lib.wpList_append_own_string _ rfl _ _ 153 9 rfl w.heap.size 5 i0 Tryz.underlying153 Tryz.underlying9 hi0 hz0 hz1 hz2 _ _ _ rfl hown ⟨#[92, 48, 48]⟩ rfl ?c3 ?c4 ?c5 ?_)
        case c3 => unfold maxLen; simp [ByteArray.size]; omega
        case c4 => simp [ByteArray.size]; omega
        case c5 => omega
        intro v' w7 ho7 hg7 _
        go_wp2_with fail
        go_roundw
        case rel =>
          refine ⟨k + 1, o ++ [92, 48, 48], by go_num, by omega, by simp; omega, ?_, ?_, ?_⟩
          · rw [List.length_append, bV_append]
            exact ho7
          · exact hbe.grown hg7 (by omega) (fun b hb => (hown.lt b hb).1)
          · rw [show decide (k + 1 = 0) = false from rfl]
            rw [← HS.out]
            simp
        case measure => simp [RowKit.intOf]; omega
      · have hdn : decide (s.drop (k + 1) = []) = decide (k = s.length - 1) := decide_eq_decide.2 (by rw [List.drop_eq_nil_iff]; omega)
        rw [wrB_step _ _ _ x0, hdn] at hans
        rw [show (x == 0) = false by simpa using x0] at x0b
        have x35 : ((x.toNat : Int) == 35) = (x == 35) := (beq_nat _ 35).trans (u8_beq x 35 (by decide)).symm
        have x32 : ((x.toNat : Int) == 32) = (x == 32) := (beq_nat _ 32).trans (u8_beq x 32 (by decide)).symm
        have k0 : ((k : Int) == 0) = decide (k = 0) := by rw [show ((k : Int) == 0) = ((k : Int) == ((0 : Nat) : Int)) from rfl, beq_nat]; rfl
        have kl : ((k : Int) == (s.length : Int) - 1) = decide (k = s.length - 1) := by rw [show ((s.length : Int) - 1) = ((s.length - 1 : Nat) : Int) by omega, beq_nat]; rfl
        obtain ⟨E, hE⟩ : ∃ E, escE x (decide (k = 0)) (decide (k = s.length - 1)) = E := ⟨_, rfl⟩
        rw [hE] at hans
        unfold escE at hE
        have ks := special_any x wr
        obtain ⟨sp, hsp⟩ : ∃ sp, decide (x ∈ specL) = sp := ⟨_, rfl⟩
        obtain ⟨b35, h35⟩ : ∃ b, (x == 35) = b := ⟨_, rfl⟩
        obtain ⟨b32, h32⟩ : ∃ b, (x == 32) = b := ⟨_, rfl⟩
        obtain ⟨bz, hz⟩ : ∃ b, decide (k = 0) = b := ⟨_, rfl⟩
        obtain ⟨bl, hbl⟩ : ∃ b, decide (k = s.length - 1) = b := ⟨_, rfl⟩
        have HZ := Lib.hid hz
        rw [hsp] at ks hE
        rw [h35] at x35 hE
        rw [h32] at x32 hE
        rw [hz] at k0 hE
        rw [hbl] at kl hE
        have HS := Lib.hid hans
        have HE := Lib.hid hE
        clear hE hans hsp h35 h32 hz hbl hdn hx x0
        go_upto_region 10 with fail
        go_cut [49] from 25 to 49 (fun s49 wx => s49 = .bool E ∧ wx = wr)
        case first =>
          cases sp <;> cases b35 <;> cases b32 <;> cases bz <;> cases bl
          all_goals
            go_wp2_with (go_at_call 254; refine Calls.mono (show Calls _ _ _ _ _ from ks) ?_; rintro e w6 ⟨rfl, rfl⟩)
            go_meet
            exact ⟨by rw [← HE.out]; rfl, rfl⟩
        case rest =>
          obtain ⟨rfl, rfl⟩ := hcut
          clear ks x35 x32 k0 kl HE
          cases E with
          | true =>
            go_wp2_with (at_builtin; refine wpList_append_own _ rfl (.tmp 50) (.tmp 51) 153 rfl w.heap.size 5 i0 (.int .u8 0) 1 1 Tryz.underlying153 hi0 hz0 hz1 hz2 rfl (by decide) u3 o.length (bV o) rfl (hown.alloc _) ⟨wc.heap.size, 0, none⟩ 1 1 [.int .u8 ((92 : UInt8).toNat : Int)] rfl rfl (cell_one_new _ _ _) ?d2 ?d3 ?d4 ?d5 ?_)
            case d2 => rfl
            case d3 => unfold maxLen; omega
            case d4 => omega
            case d5 => omega
            intro v' w7 ho7 hg7 _
            have hown7 : w7.ownsRow w.heap.size 5 1 v' (o ++ [92]).length (bV (o ++ [92])) := by
              rw [List.length_append, bV_append]
              exact ho7
            have hbe7 : Below w.heap.size w w7 := (hbe.alloc hsz _).grown hg7 (by simp; omega) (fun b hb => (hown.lt b hb).1)
            have hsz7 := hbe7.size
            clear ho7 hg7
            go_wp2_with (at_builtin; refine wpList_append_own _ rfl (.tmp 53) (.tmp 55) 153 rfl w.heap.size 5 i0 (.int .u8 0) 1 1 Tryz.underlying153 hi0 hz0 hz1 hz2 rfl (by decide) v' (o ++ [92]).length (bV (o ++ [92])) rfl (hown7.alloc _) ⟨w7.heap.size, 0, none⟩ 1 1 [.int .u8 (x.toNat : Int)] rfl rfl (cell_one_new _ _ _) ?f2 ?f3 ?f4 ?f5 ?_)
            case f2 => intro u hu; simp at hu; subst hu; rfl
            case f3 => unfold maxLen; (try simp); omega
            case f4 => (try simp); omega
            case f5 => simp; omega
            intro v8 w8 ho8 hg8 _
            have ho9 : w8.ownsRow w.heap.size 5 1 v8 (o ++ [92, x]).length (bV (o ++ [92, x])) := by
              rw [show o ++ [92, x] = (o ++ [92]) ++ [x] by simp, bV_append]
              rw [show (((o ++ [92]) ++ [x] : List UInt8)).length = o.length + 1 + 1 by simp]
              first | exact ho8 | (simp only [List.length_append, List.length_cons, List.length_nil, Nat.zero_add] at ho8; exact ho8)
            clear ho8
            go_wp2_with fail
            go_roundw
            case rel =>
              refine ⟨k + 1, o ++ [92, x], by (first | rfl | go_num), by omega, by simp; omega, ho9, ?_, ?_⟩
              · exact (hbe7.alloc hsz7 _).grown hg8 (by simp; omega) (fun b hb => (hown7.lt b hb).1)
              · rw [show decide (k + 1 = 0) = false from rfl]
                rw [← HS.out]
                simp
            case measure => simp [RowKit.intOf]; omega
          | false =>
            go_wp2_with (at_builtin; refine wpList_append_own _ rfl (.tmp 53) (.tmp 55) 153 rfl w.heap.size 5 i0 (.int .u8 0) 1 1 Tryz.underlying153 hi0 hz0 hz1 hz2 rfl (by decide) u3 o.length (bV o) rfl (hown.alloc _) ⟨wc.heap.size, 0, none⟩ 1 1 [.int .u8 (x.toNat : Int)] rfl rfl (cell_one_new _ _ _) ?h2 ?h3 ?h4 ?h5 ?_)
            case h2 => first | rfl | (intro u hu; simp at hu; subst hu; rfl)
            case h3 => unfold maxLen; (try simp); omega
            case h4 => (try simp); omega
            case h5 => simp; omega
            intro v8 w8 ho8 hg8 _
            have ho9 : w8.ownsRow w.heap.size 5 1 v8 (o ++ [x]).length (bV (o ++ [x])) := by
              rw [List.length_append, bV_append]
              exact ho8
            clear ho8
            go_wp2_with fail
            go_roundw
            case rel =>
              refine ⟨k + 1, o ++ [x], by (first | rfl | go_num), by omega, by simp; omega, ho9, ?_, ?_⟩
              · exact (hbe.alloc hsz _).grown hg8 (by simp; omega) (fun b hb => (hown.lt b hb).1)
              · rw [show decide (k + 1 = 0) = false from rfl]
                rw [← HS.out]
                simp
            case measure => simp [RowKit.intOf]; omega
    · obtain rfl : k = s.length := by omega
      rw [List.drop_of_length_le (Nat.le_refl _)] at hans
      have e : ANS = o := by rw [← hans]; simp [wrB]
      subst e
      have g4 : decide (((s.length : Nat) : Int) < (s.length : Int)) = false := decide_eq_false (by omega)
      have hcv := run_str_own (P := Tryz.prog) wr 153 9 5 w.heap.size u3 ANS Tryz.underlying153 Tryz.underlying5 Tryz.underlying9 hown
      clear hans
      go_wp2_with fail
      go_ret
      exact ⟨rfl, hbe⟩
end Go.Proofs.YtegigcneimjimaaGreatDoor
