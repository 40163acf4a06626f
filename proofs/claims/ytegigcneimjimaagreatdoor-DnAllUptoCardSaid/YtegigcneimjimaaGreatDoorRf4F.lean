/- chanceryref4.fits: what it returns. -/
import Derived.Test.YtegigcneimjimaaGreatDoorDnM
namespace Go.Proofs.YtegigcneimjimaaGreatDoor
open Go.RowKit Go.Lib

theorem longP_drop (x : List Av) (h : x.length ≤ 4) : longP x = x.any (fun a => decide (1024 < a.2.length)) := by
  unfold longP
  rw [decide_eq_false (by omega), Bool.false_or]
set_option maxRecDepth 100000 in
set_option maxHeartbeats 4000000 in
theorem fits_any (v : Value) (d : List (List Av)) (w : World) (h : DnAt w v d) (hl : d.length ≤ 1099511627776) :
    Calls Tryz.prog 119 #[v] w fun e w' => e = .returned (.bool (!longB d)) ∧ w = w' := by
  have HH := Lib.hid h
  obtain ⟨a1, c1, rfl, hc1, hx1⟩ := h
  clear hx1
  have hlb : longB d = (decide (20 < d.length) || d.any longP) := rfl
  rw [hlb]
  by_cases h20 : 20 < d.length
  · rw [decide_eq_true h20, Bool.true_or]
    have q1 : decide ((20 : Int) < (d.length : Int)) = true := decide_eq_true (by omega)
    go_enter Tryz.func119, Tryz.ntmps119
    go_wp2_with fail
    go_ret
    exact ⟨rfl, rfl⟩
  · rw [decide_eq_false h20, Bool.false_or]
    have q1 : decide ((20 : Int) < (d.length : Int)) = false := decide_eq_false (by omega)
    obtain ⟨ANS, hA⟩ : ∃ ANS, d.any longP = ANS := ⟨_, rfl⟩
    rw [hA]
    have HA := Lib.hid hA
    clear hA hlb
    go_enter Tryz.func119, Tryz.ntmps119
    go_wp2_with fail
    go_loopw [3] (fun i wr => ∃ k : Nat, i = .int .i64 (k : Int) ∧ k ≤ d.length ∧ w = wr ∧ (d.drop k).any longP = ANS) (fun i _ => d.length - (RowKit.intOf i).toNat)
    case atStart => exact ⟨0, rfl, by omega, rfl, HA.out⟩
    case round =>
      obtain ⟨k, rfl, hk, rfl, hans⟩ := hrel
      clear HA
      by_cases hkl : k < d.length
      · obtain ⟨x, hx⟩ : ∃ x, d[k] = x := ⟨_, rfl⟩
        have hxk : d[k]? = some x := by rw [List.getElem?_eq_getElem hkl, hx]
        have hr0 : d ≠ [] := by intro e; rw [e] at hkl; simp at hkl
        rw [List.drop_eq_getElem_cons hkl, hx, List.any_cons] at hans
        obtain ⟨a2, cap2, e2, _, hcell⟩ := HH.out
        obtain ⟨g, o, ha, hcc⟩ := hcell hr0
        cases e2
        subst ha
        obtain ⟨u, p1, hu⟩ := hcc k x hxk
        clear hcc hcell
        have HU := Lib.hid hu
        obtain ⟨au, cu, hue, _, _⟩ := hu
        subst hue
        clear hx hxk
        have gk : decide ((k : Int) < (d.length : Int)) = true := decide_eq_true (by omega)
        by_cases x4 : 4 < x.length
        · have q4 : decide ((4 : Int) < (x.length : Int)) = true := decide_eq_true (by omega)
          have e : ANS = true := by rw [← hans, longP, decide_eq_true x4]; rfl
          subst e
          go_wp2_with fail
          go_ret
          exact ⟨rfl, rfl⟩
        · have q4 : decide ((4 : Int) < (x.length : Int)) = false := decide_eq_false (by omega)
          rw [longP_drop x (by omega)] at hans
          have HS := Lib.hid hans
          clear hans
          go_wp2_with fail
          go_loopw [4] (fun i wr => ∃ j : Nat, i = .int .i64 (j : Int) ∧ j ≤ x.length ∧ w = wr ∧ ((x.drop j).any (fun a => decide (1024 < a.2.length)) || (d.drop (k + 1)).any longP) = ANS) (fun i _ => x.length - (RowKit.intOf i).toNat)
          case atStart => exact ⟨0, rfl, by omega, rfl, HS.out⟩
          case round =>
            obtain ⟨j, rfl, hj, rfl, hans⟩ := hrel
            clear HS
            by_cases hjl : j < x.length
            · obtain ⟨y, hy⟩ : ∃ y, x[j] = y := ⟨_, rfl⟩
              have hyk : x[j]? = some y := by rw [List.getElem?_eq_getElem hjl, hy]
              have hx0 : x ≠ [] := by intro e; rw [e] at hjl; simp at hjl
              rw [List.drop_eq_getElem_cons hjl, hy, List.any_cons] at hans
              obtain ⟨a3, cap3, e3, _, hcell3⟩ := HU.out
              obtain ⟨g3, o3, ha3, hcc3⟩ := hcell3 hx0
              cases e3
              subst ha3
              obtain ⟨p3, p4⟩ := hcc3 j y hyk
              rw [Nat.mul_comm] at p3 p4
              clear hcc3 hcell3 hy hyk
              have gj : decide ((j : Int) < (x.length : Int)) = true := decide_eq_true (by omega)
              have yq : decide ((1024 : Int) < (y.2.length : Int)) = decide (1024 < y.2.length) := decide_eq_decide.2 (by omega)
              generalize decide (1024 < y.2.length) = q at yq hans
              have HS := Lib.hid hans
              clear hans
              cases q
              · go_wp2_with fail
                first
                  | exact ⟨⟨j + 1, by go_num, by omega, trivial, by rw [← HS.out]; simp⟩, by simp [RowKit.intOf]; omega⟩
                  | (go_roundw
                     case rel => exact ⟨j + 1, by go_num, by omega, trivial, by rw [← HS.out]; simp⟩
                     case measure => simp [RowKit.intOf]; omega)
              · have e : ANS = true := by rw [← HS.out]; simp
                subst e
                go_wp2_with fail
                go_ret
                exact ⟨rfl, rfl⟩
            · have e : (d.drop (k + 1)).any longP = ANS := by rw [← hans, List.drop_of_length_le (show x.length ≤ j by omega)]; simp
              have HS := Lib.hid e
              have gj : ¬ j < x.length := hjl
              have gj2 : decide ((j : Int) < (x.length : Int)) = false := decide_eq_false (by omega)
              clear e hans
              go_wp2_with fail
              first
                | exact ⟨⟨k + 1, by go_num, by omega, trivial, HS.out⟩, by simp [RowKit.intOf]; omega⟩
                | (go_roundw
                   case rel => exact ⟨k + 1, by go_num, by omega, trivial, HS.out⟩
                   case measure => simp [RowKit.intOf]; omega)
      · have e : ANS = false := by rw [← hans, List.drop_of_length_le (show d.length ≤ k by omega)]; rfl
        subst e
        have gk : ¬ k < d.length := hkl
        clear hans
        go_wp2_with fail
        go_ret
        exact ⟨rfl, rfl⟩
end Go.Proofs.YtegigcneimjimaaGreatDoor
