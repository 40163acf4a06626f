/- ldif.right: records that change an entry. -/
import Derived.Test.YtehpdodjncabkaaDoorLdI
import Derived.Test.YtehpdodjncabkaaDoorLdD
namespace Go.Proofs.YtehpdodjncabkaaDoor
open Go.RowKit Go.Lib

def okM (m : Md) : Bool := decide (0 ≤ m.1) && decide (m.1 ≤ 2) && isTyB m.2.1
theorem modsOk_okM (ms : List Md) : modsOk ms = ms.all okM := rfl
def RM (B : Nat) (ml : List Md) (w : World) (i : Value) (wr : World) : Prop :=
  ∃ k : Nat, i = .int .i64 (k : Int) ∧ k ≤ ml.length ∧ ml.all okM = (ml.drop k).all okM ∧ Below B w wr
set_option maxRecDepth 100000 in
set_option maxHeartbeats 2000000 in
theorem right_mod (sT sW sD : List UInt8) (aA aM : _) (cA cM : Nat) (ml : List Md) (w : World) (hA : ModsAt w (.slice aM ml.length cM) ml) (hE : Env w) (hml : ml.length ≤ 1099511627776) (hty : ∀ x ∈ ml, x.2.1.length ≤ 1099511627776) :
    Calls Tryd.prog 20 #[.agg #[.string ⟨sT.toArray⟩, .string ⟨sW.toArray⟩, .string ⟨sD.toArray⟩, .int .i64 2, .slice aA 0 cA, .slice aM ml.length cM, .string ⟨#[]⟩, .string ⟨#[]⟩, .bool false, .bool false]] w fun e w' => e = .returned (.bool (modsOk ml)) ∧ Below w.heap.size w w' := by
  rw [modsOk_okM]
  have HA := Lib.hid hA
  have HT := Lib.hid hty
  clear hA hty
  obtain ⟨PR, hPR⟩ : ∃ b, ml.all okM = b := ⟨_, rfl⟩
  rw [hPR]
  have HP := Lib.hid hPR
  clear hPR
  obtain ⟨C, hC⟩ : ∃ C : Array Value, #[.string ⟨sT.toArray⟩, .string ⟨sW.toArray⟩, .string ⟨sD.toArray⟩, .int .i64 2, .slice aA 0 cA, .slice aM ml.length cM, .string ⟨#[]⟩, .string ⟨#[]⟩, .bool false, .bool false] = C := ⟨_, rfl⟩
  have hb1 : Below w.heap.size w (w.alloc (.cells C 25)) := (Below.refl _ _).alloc (Nat.le_refl _) _
  have hs1 : w.heap.size < (w.alloc (.cells C 25)).heap.size := by simp
  have hk1 : (w.alloc (.cells C 25)).heap[w.heap.size]? = some (.cells C 25 (0, 0)) := alloc_at _ _ _ rfl
  have d5 : (w.alloc (.cells C 25)).cell? ⟨w.heap.size, 5, none⟩ = some (.slice aM ml.length cM) := by rw [Lib.cell_of_heap hk1, ← hC]; rfl
  rw [← hC] at hb1 hs1 d5
  clear hk1 hC
  go_enter Tryd.func20, Tryd.ntmps20
  go_wp2_with fail
  go_loop [64] (fun i => i = .int .i64 0) (fun _ => 0)
  case atStart => rfl
  case round =>
    subst hrel
    go_wp2_with fail
    generalize w.alloc (.cells #[.string ⟨sT.toArray⟩, .string ⟨sW.toArray⟩, .string ⟨sD.toArray⟩, .int .i64 2, .slice aA 0 cA, .slice aM ml.length cM, .string ⟨#[]⟩, .string ⟨#[]⟩, .bool false, .bool false] 25) = w1 at hb1 hs1 d5 ⊢
    generalize w.heap.size = G at hs1 d5 ⊢
    go_loopw [99] (fun i wr => RM w1.heap.size ml w1 i wr) (fun i _ => ml.length - (RowKit.intOf i).toNat)
    case atStart => exact ⟨0, rfl, by omega, by simp, Below.refl _ _⟩
    case round =>
      obtain ⟨k, rfl, hk, hok, hbe⟩ := hrel
      by_cases hkl : k < ml.length
      · obtain ⟨x, hx⟩ : ∃ x, ml[k] = x := ⟨_, rfl⟩
        have hxk : ml[k]? = some x := by rw [List.getElem?_eq_getElem hkl, hx]
        have hst : (ml.drop k).all okM = (okM x && (ml.drop (k + 1)).all okM) := by rw [List.drop_eq_getElem_cons hkl, hx, List.all_cons]
        rw [← hok, HP.out] at hst
        have HS := Lib.hid hst
        clear hst hok
        have hne : ml ≠ [] := by intro e; rw [e] at hkl; simp at hkl
        have hx1 := HT.out x (List.mem_of_getElem? hxk)
        obtain ⟨a2, c2, e2, _, hcell⟩ := HA.out
        obtain ⟨g, o, hag, hcc⟩ := hcell hne
        cases e2
        subst hag
        obtain ⟨p1', p2', u, p3', hu⟩ := hcc k x hxk
        have hbw : Below w.heap.size w wr := below_ext hb1 hbe
        have p1 := (hbw.cell (lt_of_cell p1')).trans p1'
        have p2 := (hbw.cell (lt_of_cell p2')).trans p2'
        have p3 := (hbw.cell (lt_of_cell p3')).trans p3'
        have hEr := hE.below hbw
        obtain ⟨au, cu, hue, _, _⟩ := hu
        subst hue
        have gk : decide ((k : Int) < (ml.length : Int)) = true := decide_eq_true (by omega)
        have gk2 : (k : Int) < (ml.length : Int) := by omega
        have hbA : Below wr.heap.size wr (wr.alloc (.cells #[.int .i64 x.1, .string ⟨x.2.1.toArray⟩, .slice au x.2.2.length cu] 53)) := (Below.refl _ _).alloc (Nat.le_refl _) _
        have hEA := hEr.below hbA
        have kT := IsType_any x.2.1 _ hx1 hEA
        have hbeA := hbe.trans (hbA.mono hbe.size)
        clear hx hxk hcell p1' p2' p3' hcc
        by_cases ho0 : x.1 < 0
        · have HPR : PR = false := by rw [HS.out]; simp [okM, show ¬ 0 ≤ x.1 by omega]
          subst HPR
          have t1 : decide (x.1 < 0) = true := decide_eq_true ho0
          go_wp2_with fail
          go_ret
          exact ⟨rfl, hb1.trans (hbeA.mono hb1.size)⟩
        · have t1 : decide (x.1 < 0) = false := decide_eq_false ho0
          by_cases ho2 : 2 < x.1
          · have HPR : PR = false := by rw [HS.out]; simp [okM, show ¬ x.1 ≤ 2 by omega]
            subst HPR
            have t2 : decide (2 < x.1) = true := decide_eq_true ho2
            go_wp2_with fail
            go_ret
            exact ⟨rfl, hb1.trans (hbeA.mono hb1.size)⟩
          · have t2 : decide (2 < x.1) = false := decide_eq_false ho2
            cases hT : isTyB x.2.1 with
            | false =>
              rw [hT] at kT
              have HPR : PR = false := by rw [HS.out]; simp [okM, hT]
              subst HPR
              clear hT
              go_wp2_with (go_at_call 45; refine Calls.mono (show Calls _ _ _ _ _ from kT) ?_; rintro e w5 ⟨rfl, hb5⟩)
              go_ret
              exact ⟨rfl, hb1.trans ((hbeA.trans (hb5.mono hbeA.size)).mono hb1.size)⟩
            | true =>
              rw [hT] at kT
              have HPR : PR = (ml.drop (k + 1)).all okM := by rw [HS.out]; simp [okM, hT, show 0 ≤ x.1 by omega, show x.1 ≤ 2 by omega]
              have HPR := Lib.hid HPR
              clear hT
              go_wp2_with (go_at_call 45; refine Calls.mono (show Calls _ _ _ _ _ from kT) ?_; rintro e w5 ⟨rfl, hb5⟩)
              go_roundw
              case rel => exact ⟨k + 1, by go_num, by omega, by rw [HP.out, HPR.out], hbeA.trans (hb5.mono hbeA.size)⟩
              case measure => simp [RowKit.intOf]; omega
      · obtain rfl : k = ml.length := by omega
        have HPR : PR = true := by rw [← HP.out, hok, List.drop_length]; rfl
        subst HPR
        have gk : decide ((ml.length : Int) < (ml.length : Int)) = false := decide_eq_false (by omega)
        clear hok
        go_wp2_with fail
        go_ret
        exact ⟨rfl, hb1.trans (hbe.mono hb1.size)⟩
end Go.Proofs.YtehpdodjncabkaaDoor
