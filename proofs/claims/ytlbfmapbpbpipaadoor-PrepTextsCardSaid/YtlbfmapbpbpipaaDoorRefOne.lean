/- The document's own answers of chapter 1 on characters: Rune, Good, Text. -/
import Derived.Test.YtlbfmapbpbpipaaDoorPlainRune
import Derived.Test.YtlbfmapbpbpipaaDoorRefThree
namespace Go.Proofs.YtlbfmapbpbpipaaDoor
open Go.RowKit Go.Lib

set_option maxRecDepth 100000 in
set_option maxHeartbeats 4000000 in
theorem RefRune_any (l : List UInt8) (i : Nat) (w : World) (hi : i < l.length) (hl : l.length ≤ 1099511627776) :
    Calls Tryd.prog 42 #[.string ⟨l.toArray⟩, .int .i64 i] w fun e w' => e = .returned (decV (l.drop i)) ∧ w = w' := by
  obtain ⟨d, hd⟩ : ∃ d : Nat → Nat, ∀ k, (l.getD (i + k) 0).toNat = d k := ⟨_, fun _ => rfl⟩
  have hlt : ∀ k, d k < 256 := fun k => by rw [← hd]; exact UInt8.toNat_lt _
  have hR := decV_spec l i d hd
  have gd : ∀ (k : Nat) (h : i + k < (⟨l.toArray⟩ : ByteArray).size), ((⟨l.toArray⟩ : ByteArray)[i + k]'h).toNat = d k := by
    intro k h
    rw [← hd, List.getD_eq_getElem?_getD, List.getElem?_eq_getElem (by rw [Lib.size_mk] at h; exact h)]
    rfl
  have g0 : ∀ (h : i < (⟨l.toArray⟩ : ByteArray).size), ((⟨l.toArray⟩ : ByteArray)[i]'h).toNat = d 0 := fun h => gd 0 h
  have h0 := hlt 0
  obtain ⟨R, hRR⟩ : ∃ R, decV (l.drop i) = R := ⟨_, rfl⟩
  rw [hRR] at hR ⊢
  clear hRR hd
  obtain ⟨b0, hb0⟩ : ∃ b0, d 0 = b0 := ⟨_, rfl⟩
  rw [hb0] at h0 hR
  simp only [hb0] at g0
  have HLT := Lib.hid hlt
  have GD := Lib.hid gd
  clear hlt gd hb0
  by_cases ha : b0 < 128
  · obtain rfl := hR.asc ha
    clear hR GD HLT
    go_enter Tryd.func42, Tryd.ntmps42
    go_wp2_with fail
    go_ret2
    exact ⟨rfl, rfl⟩
  · by_cases hE : (128 ≤ b0 ∧ b0 ≤ 193) ∨ 245 ≤ b0
    · obtain rfl := hR.none_ hE
      clear hR GD HLT
      unfold badR
      rcases hE with hE | hE
      · go_enter Tryd.func42, Tryd.ntmps42
        go_wp2_with fail
        go_ret2
        exact ⟨rfl, rfl⟩
      · go_enter Tryd.func42, Tryd.ntmps42
        go_wp2_with fail
        go_ret2
        exact ⟨rfl, rfl⟩

    by_cases k2 : 194 ≤ b0 ∧ b0 ≤ 223
    · obtain ⟨k1, k2⟩ := k2
      have hS := hR.two k1 k2
      clear hR
      by_cases hn : i + 2 ≤ l.length
      · have HS := Lib.hid hS
        clear hS
        have hc0 : (0 : Int) ≤ (b0 : Int) - 192 := by omega
        have hc1 : (b0 : Int) - 192 ≤ 31 := by omega
        have x1 : decide ((i : Int) < 0) = false := decide_eq_false (by omega)
        have x2 : decide ((b0 : Int) < 128) = false := decide_eq_false (by omega)
        have x3 : decide ((b0 : Int) ≤ 223) = true := decide_eq_true (by omega)
        have x9 : decide ((l.length : Int) < (i : Int) + 2) = false := decide_eq_false (by omega)
        go_enter Tryd.func42, Tryd.ntmps42
        go_wp2_with fail
        clear x1 x2 x9 x3
        go_loop [8, 10] (fun v k => VRel ((b0 : Int) - 192) d 2 v k) (fun _ k => 4 - (RowKit.intOf k).toNat)
        case atStart => exact ⟨1, rfl, by omega, by omega, rfl, fun t h1 h2 => by omega⟩
        case round =>
          obtain ⟨j, rfl, hj1, hj2, rfl, hc⟩ := hrel
          have hb := vv_bound ((b0 : Int) - 192) d hc0 hc1 j (by omega) hc
          have hsucc := vv_succ ((b0 : Int) - 192) d j hj1
          obtain ⟨v, hv⟩ : ∃ v, vv ((b0 : Int) - 192) d j = v := ⟨_, rfl⟩
          rw [hv] at hb hsucc ⊢
          obtain ⟨hb1, hb2⟩ := hb
          have HC := Lib.hid hc
          have HV := Lib.hid hv
          have HU := Lib.hid hsucc
          clear hc hv hsucc
          by_cases hjN : j < 2
          · have hgj := GD.out j
            obtain ⟨dj, hdj⟩ : ∃ dj, d j = dj := ⟨_, rfl⟩
            simp only [hdj] at hgj
            have hdl : dj < 256 := by rw [← hdj]; exact HLT.out j
            have HD := Lib.hid hdj
            clear hdj
            by_cases hct : 128 ≤ dj ∧ dj ≤ 191
            · obtain ⟨hct1, hct2⟩ := hct
              go_wp2_with fail
              go_round
              case rel =>
                refine ⟨j + 1, by go_num, by omega, by omega, ?_, fun t h1 h2 => ?_⟩
                · rw [HU.out, HD.out]
                · by_cases e : t = j
                  · rw [e, HD.out]; exact ⟨hct1, hct2⟩
                  · exact HC.out t h1 (by omega)
              case measure => simp [RowKit.intOf]; omega
            · have hRb := HS.out.byte j hj1 hjN (by rw [HD.out]; omega)
              unfold badR at hRb
              subst hRb
              clear HS
              have hct2 : dj < 128 ∨ 191 < dj := by omega
              clear hct
              rcases hct2 with hct2 | hct2
              · go_wp2_with fail
                go_ret2
                exact ⟨rfl, rfl⟩
              · go_wp2_with fail
                go_ret2
                exact ⟨rfl, rfl⟩
          · obtain rfl : j = 2 := by omega
            have hno := HS.out.no (by omega) HC.out
            have hyes := HS.out.yes (by omega) HC.out
            rw [HV.out] at hno hyes
            have HNO := Lib.hid hno
            have HYE := Lib.hid hyes
            clear hno hyes HS HV HU HC GD HLT
            by_cases hbad : v < 128 ∨ 1114111 < v ∨ (55296 ≤ v ∧ v ≤ 57343)
            · have hRb := HNO.out hbad
              unfold badR at hRb
              subst hRb
              clear HNO HYE
              by_cases q1 : v < 128
              · go_wp2_with fail
                go_ret2
                exact ⟨rfl, rfl⟩
              · by_cases q2 : 1114111 < v
                · go_wp2_with fail
                  go_ret2
                  exact ⟨rfl, rfl⟩
                · have q3 : 55296 ≤ v := by omega
                  have q4 : v ≤ 57343 := by omega
                  go_wp2_with fail
                  go_ret2
                  exact ⟨rfl, rfl⟩
            · obtain rfl := HYE.out hbad
              clear HNO HYE
              have q1 : 128 ≤ v := by omega
              have q2 : v ≤ 1114111 := by omega
              have q3 : v < 55296 ∨ 57343 < v := by omega
              clear hbad
              rcases q3 with q3 | q3
              · go_wp2_with fail
                go_ret2
                exact ⟨rfl, rfl⟩
              · go_wp2_with fail
                go_ret2
                exact ⟨rfl, rfl⟩
      · obtain rfl := hS.short (by omega)
        clear hS GD HLT
        unfold badR
        go_enter Tryd.func42, Tryd.ntmps42
        go_wp2_with fail
        go_ret2
        exact ⟨rfl, rfl⟩
    by_cases k3 : 224 ≤ b0 ∧ b0 ≤ 239
    · obtain ⟨k1, k2⟩ := k3
      have hS := hR.three k1 k2
      clear hR
      by_cases hn : i + 3 ≤ l.length
      · have HS := Lib.hid hS
        clear hS
        have hc0 : (0 : Int) ≤ (b0 : Int) - 224 := by omega
        have hc1 : (b0 : Int) - 224 ≤ 31 := by omega
        have x1 : decide ((i : Int) < 0) = false := decide_eq_false (by omega)
        have x2 : decide ((b0 : Int) < 128) = false := decide_eq_false (by omega)
        have x3 : decide ((b0 : Int) ≤ 223) = false := decide_eq_false (by omega)
        have x4 : decide ((b0 : Int) ≤ 239) = true := decide_eq_true (by omega)
        have x9 : decide ((l.length : Int) < (i : Int) + 3) = false := decide_eq_false (by omega)
        go_enter Tryd.func42, Tryd.ntmps42
        go_wp2_with fail
        clear x1 x2 x9 x3 x4
        go_loop [8, 10] (fun v k => VRel ((b0 : Int) - 224) d 3 v k) (fun _ k => 4 - (RowKit.intOf k).toNat)
        case atStart => exact ⟨1, rfl, by omega, by omega, rfl, fun t h1 h2 => by omega⟩
        case round =>
          obtain ⟨j, rfl, hj1, hj2, rfl, hc⟩ := hrel
          have hb := vv_bound ((b0 : Int) - 224) d hc0 hc1 j (by omega) hc
          have hsucc := vv_succ ((b0 : Int) - 224) d j hj1
          obtain ⟨v, hv⟩ : ∃ v, vv ((b0 : Int) - 224) d j = v := ⟨_, rfl⟩
          rw [hv] at hb hsucc ⊢
          obtain ⟨hb1, hb2⟩ := hb
          have HC := Lib.hid hc
          have HV := Lib.hid hv
          have HU := Lib.hid hsucc
          clear hc hv hsucc
          by_cases hjN : j < 3
          · have hgj := GD.out j
            obtain ⟨dj, hdj⟩ : ∃ dj, d j = dj := ⟨_, rfl⟩
            simp only [hdj] at hgj
            have hdl : dj < 256 := by rw [← hdj]; exact HLT.out j
            have HD := Lib.hid hdj
            clear hdj
            by_cases hct : 128 ≤ dj ∧ dj ≤ 191
            · obtain ⟨hct1, hct2⟩ := hct
              go_wp2_with fail
              go_round
              case rel =>
                refine ⟨j + 1, by go_num, by omega, by omega, ?_, fun t h1 h2 => ?_⟩
                · rw [HU.out, HD.out]
                · by_cases e : t = j
                  · rw [e, HD.out]; exact ⟨hct1, hct2⟩
                  · exact HC.out t h1 (by omega)
              case measure => simp [RowKit.intOf]; omega
            · have hRb := HS.out.byte j hj1 hjN (by rw [HD.out]; omega)
              unfold badR at hRb
              subst hRb
              clear HS
              have hct2 : dj < 128 ∨ 191 < dj := by omega
              clear hct
              rcases hct2 with hct2 | hct2
              · go_wp2_with fail
                go_ret2
                exact ⟨rfl, rfl⟩
              · go_wp2_with fail
                go_ret2
                exact ⟨rfl, rfl⟩
          · obtain rfl : j = 3 := by omega
            have hno := HS.out.no (by omega) HC.out
            have hyes := HS.out.yes (by omega) HC.out
            rw [HV.out] at hno hyes
            have HNO := Lib.hid hno
            have HYE := Lib.hid hyes
            clear hno hyes HS HV HU HC GD HLT
            by_cases hbad : v < 2048 ∨ 1114111 < v ∨ (55296 ≤ v ∧ v ≤ 57343)
            · have hRb := HNO.out hbad
              unfold badR at hRb
              subst hRb
              clear HNO HYE
              by_cases q1 : v < 2048
              · go_wp2_with fail
                go_ret2
                exact ⟨rfl, rfl⟩
              · by_cases q2 : 1114111 < v
                · go_wp2_with fail
                  go_ret2
                  exact ⟨rfl, rfl⟩
                · have q3 : 55296 ≤ v := by omega
                  have q4 : v ≤ 57343 := by omega
                  go_wp2_with fail
                  go_ret2
                  exact ⟨rfl, rfl⟩
            · obtain rfl := HYE.out hbad
              clear HNO HYE
              have q1 : 2048 ≤ v := by omega
              have q2 : v ≤ 1114111 := by omega
              have q3 : v < 55296 ∨ 57343 < v := by omega
              clear hbad
              rcases q3 with q3 | q3
              · go_wp2_with fail
                go_ret2
                exact ⟨rfl, rfl⟩
              · go_wp2_with fail
                go_ret2
                exact ⟨rfl, rfl⟩
      · obtain rfl := hS.short (by omega)
        clear hS GD HLT
        unfold badR
        go_enter Tryd.func42, Tryd.ntmps42
        go_wp2_with fail
        go_ret2
        exact ⟨rfl, rfl⟩
    by_cases k4 : 240 ≤ b0 ∧ b0 ≤ 244
    · obtain ⟨k1, k2⟩ := k4
      have hS := hR.four k1 k2
      clear hR
      by_cases hn : i + 4 ≤ l.length
      · have HS := Lib.hid hS
        clear hS
        have hc0 : (0 : Int) ≤ (b0 : Int) - 240 := by omega
        have hc1 : (b0 : Int) - 240 ≤ 31 := by omega
        have x1 : decide ((i : Int) < 0) = false := decide_eq_false (by omega)
        have x2 : decide ((b0 : Int) < 128) = false := decide_eq_false (by omega)
        have x3 : decide ((b0 : Int) ≤ 223) = false := decide_eq_false (by omega)
        have x4 : decide ((b0 : Int) ≤ 239) = false := decide_eq_false (by omega)
        have x5 : decide ((b0 : Int) ≤ 244) = true := decide_eq_true (by omega)
        have x9 : decide ((l.length : Int) < (i : Int) + 4) = false := decide_eq_false (by omega)
        go_enter Tryd.func42, Tryd.ntmps42
        go_wp2_with fail
        clear x1 x2 x9 x3 x4 x5
        go_loop [8, 10] (fun v k => VRel ((b0 : Int) - 240) d 4 v k) (fun _ k => 4 - (RowKit.intOf k).toNat)
        case atStart => exact ⟨1, rfl, by omega, by omega, rfl, fun t h1 h2 => by omega⟩
        case round =>
          obtain ⟨j, rfl, hj1, hj2, rfl, hc⟩ := hrel
          have hb := vv_bound ((b0 : Int) - 240) d hc0 hc1 j (by omega) hc
          have hsucc := vv_succ ((b0 : Int) - 240) d j hj1
          obtain ⟨v, hv⟩ : ∃ v, vv ((b0 : Int) - 240) d j = v := ⟨_, rfl⟩
          rw [hv] at hb hsucc ⊢
          obtain ⟨hb1, hb2⟩ := hb
          have HC := Lib.hid hc
          have HV := Lib.hid hv
          have HU := Lib.hid hsucc
          clear hc hv hsucc
          by_cases hjN : j < 4
          · have hgj := GD.out j
            obtain ⟨dj, hdj⟩ : ∃ dj, d j = dj := ⟨_, rfl⟩
            simp only [hdj] at hgj
            have hdl : dj < 256 := by rw [← hdj]; exact HLT.out j
            have HD := Lib.hid hdj
            clear hdj
            by_cases hct : 128 ≤ dj ∧ dj ≤ 191
            · obtain ⟨hct1, hct2⟩ := hct
              go_wp2_with fail
              go_round
              case rel =>
                refine ⟨j + 1, by go_num, by omega, by omega, ?_, fun t h1 h2 => ?_⟩
                · rw [HU.out, HD.out]
                · by_cases e : t = j
                  · rw [e, HD.out]; exact ⟨hct1, hct2⟩
                  · exact HC.out t h1 (by omega)
              case measure => simp [RowKit.intOf]; omega
            · have hRb := HS.out.byte j hj1 hjN (by rw [HD.out]; omega)
              unfold badR at hRb
              subst hRb
              clear HS
              have hct2 : dj < 128 ∨ 191 < dj := by omega
              clear hct
              rcases hct2 with hct2 | hct2
              · go_wp2_with fail
                go_ret2
                exact ⟨rfl, rfl⟩
              · go_wp2_with fail
                go_ret2
                exact ⟨rfl, rfl⟩
          · obtain rfl : j = 4 := by omega
            have hno := HS.out.no (by omega) HC.out
            have hyes := HS.out.yes (by omega) HC.out
            rw [HV.out] at hno hyes
            have HNO := Lib.hid hno
            have HYE := Lib.hid hyes
            clear hno hyes HS HV HU HC GD HLT
            by_cases hbad : v < 65536 ∨ 1114111 < v ∨ (55296 ≤ v ∧ v ≤ 57343)
            · have hRb := HNO.out hbad
              unfold badR at hRb
              subst hRb
              clear HNO HYE
              by_cases q1 : v < 65536
              · go_wp2_with fail
                go_ret2
                exact ⟨rfl, rfl⟩
              · by_cases q2 : 1114111 < v
                · go_wp2_with fail
                  go_ret2
                  exact ⟨rfl, rfl⟩
                · have q3 : 55296 ≤ v := by omega
                  have q4 : v ≤ 57343 := by omega
                  go_wp2_with fail
                  go_ret2
                  exact ⟨rfl, rfl⟩
            · obtain rfl := HYE.out hbad
              clear HNO HYE
              have q1 : 65536 ≤ v := by omega
              have q2 : v ≤ 1114111 := by omega
              have q3 : 57343 < v := by omega
              clear hbad
              go_wp2_with fail
              go_ret2
              exact ⟨rfl, rfl⟩
      · obtain rfl := hS.short (by omega)
        clear hS GD HLT
        unfold badR
        go_enter Tryd.func42, Tryd.ntmps42
        go_wp2_with fail
        go_ret2
        exact ⟨rfl, rfl⟩
    omega
end Go.Proofs.YtlbfmapbpbpipaaDoor
