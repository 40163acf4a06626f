/- ldif.isPlain and writer.line: what they do. -/
import Derived.Test.YtehpdodjncabkaaDoorBuildX
namespace Go.Proofs.YtehpdodjncabkaaDoor
open Go.RowKit Go.Lib

def okB (c : UInt8) : Bool := decide (32 ≤ c.toNat ∧ c.toNat ≤ 126)
def plainB (v : List UInt8) : Bool := !v.isEmpty && decide (indexByte [32, 58, 60] (v.getD 0 0) < 0) && decide (v.getD (v.length - 1) 0 ≠ 32) && v.all okB

theorem Sign_l (c : UInt8) (w : World) :
    Calls Tryd.prog 73 #[.string ⟨#[32, 58, 60]⟩, .int .u8 (c.toNat : Int)] w fun e w' => e = .returned (.int .i64 (indexByte [32, 58, 60] c)) ∧ w = w' :=
  (Tryd.strings_IndexByte ⟨#[32, 58, 60]⟩ c.toNat w).mono fun e w' ⟨he, hw⟩ => ⟨by simpa using he, hw.symm⟩

def PRel (v : List UInt8) (ANS : Bool) (i : Value) : Prop := ∃ k : Nat, i = .int .i64 (k : Int) ∧ k ≤ v.length ∧ (v.drop k).all okB = ANS

set_option maxRecDepth 100000 in
set_option maxHeartbeats 2000000 in
theorem isPlain_any (v : List UInt8) (w : World) (hv : v.length ≤ 1099511627776) :
    Calls Tryd.prog 46 #[.string ⟨v.toArray⟩] w fun e w' => e = .returned (.bool (plainB v)) ∧ w = w' := by
  by_cases h0 : v = []
  · subst h0
    go_enter Tryd.func46, Tryd.ntmps46
    go_wp2
    go_ret
    exact ⟨rfl, rfl⟩
  · have hl : 0 < v.length := List.length_pos_iff.2 h0
    have hne : v.isEmpty = false := by cases v <;> simp_all
    have k1 := Sign_l (v[0]) w
    have e0 : v.getD 0 0 = v[0] := by simp [hl]
    have e1 : v.getD (v.length - 1) 0 = v[v.length - 1] := by rw [List.getD_eq_getElem?_getD, List.getElem?_eq_getElem (by omega)]; rfl
    unfold plainB
    rw [e0, e1, hne]
    obtain ⟨V, hV⟩ : ∃ V, indexByte [32, 58, 60] v[0] = V := ⟨_, rfl⟩
    rw [hV] at k1 ⊢
    clear hV e0 e1
    have hz : (((v.length : Int) - 1).toNat) = v.length - 1 := by omega
    by_cases hV0 : V < 0
    · have q1 : decide (V ≥ 0) = false := decide_eq_false (by omega)
      have q1' : decide (0 ≤ V) = false := decide_eq_false (by omega)
      by_cases hz2 : v[v.length - 1] = 32
      · rw [show (!false && decide (V < 0) && decide (v[v.length - 1] ≠ 32) && v.all okB) = false by simp [hz2]]
        have q2 : ((((⟨v.toArray⟩ : ByteArray)[v.length - 1]'(by rw [Lib.size_mk]; omega)).toNat : Int) == 32) = true := by
          show (((v[v.length - 1]).toNat : Int) == 32) = true
          rw [hz2]; rfl
        clear hz2
        go_enter Tryd.func46, Tryd.ntmps46
        go_wp2_with (go_at_call 73; refine Calls.mono (show Calls _ _ _ _ _ from k1) ?_; rintro e w' ⟨rfl, rfl⟩)
        go_ret
        exact ⟨rfl, rfl⟩
      · obtain ⟨ANS, hA⟩ : ∃ ANS, v.all okB = ANS := ⟨_, rfl⟩
        rw [show (!false && decide (V < 0) && decide (v[v.length - 1] ≠ 32) && v.all okB) = ANS by simp [hz2, hV0, hA]]
        have HA := Lib.hid hA
        have q2 : ((((⟨v.toArray⟩ : ByteArray)[v.length - 1]'(by rw [Lib.size_mk]; omega)).toNat : Int) == 32) = false := by
          show (((v[v.length - 1]).toNat : Int) == 32) = false
          rw [beq_eq_false_iff_ne]
          intro h
          apply hz2
          apply UInt8.toNat.inj
          have : (32 : UInt8).toNat = 32 := rfl
          omega
        clear hz2 hA
        go_enter Tryd.func46, Tryd.ntmps46
        go_wp2_with (go_at_call 73; refine Calls.mono (show Calls _ _ _ _ _ from k1) ?_; rintro e w' ⟨rfl, rfl⟩)
        go_loop [22] (fun i => PRel v ANS i) (fun i => v.length - (RowKit.intOf i).toNat)
        case atStart => exact ⟨0, rfl, by omega, HA.out⟩
        case round =>
          obtain ⟨k, rfl, hk, hall⟩ := hrel
          by_cases hkv : k < v.length
          · rw [List.drop_eq_getElem_cons hkv, List.all_cons] at hall
            have hge : ((⟨v.toArray⟩ : ByteArray)[k]'(by rw [Lib.size_mk]; omega)) = v[k] := rfl
            by_cases hc : okB v[k] = true
            · rw [hc, Bool.true_and] at hall
              have HL := Lib.hid hall
              have hc2 := of_decide_eq_true hc
              rw [← hge] at hc2
              clear hall HA hge hc
              have q3 : decide ((((⟨v.toArray⟩ : ByteArray)[k]'(by rw [Lib.size_mk]; omega)).toNat : Int) < 32) = false := decide_eq_false (by omega)
              have q4 : decide (126 < (((⟨v.toArray⟩ : ByteArray)[k]'(by rw [Lib.size_mk]; omega)).toNat : Int)) = false := decide_eq_false (by omega)
              go_wp2_with fail
              exact ⟨⟨k + 1, by go_num, by omega, HL.out⟩, by simp [RowKit.intOf]; omega⟩
            · rw [show okB v[k] = false by simpa using hc, Bool.false_and] at hall
              subst hall
              have hc2 : ¬ (32 ≤ v[k].toNat ∧ v[k].toNat ≤ 126) := fun h => hc (decide_eq_true h)
              rw [← hge] at hc2
              clear HA hge hc
              by_cases h32 : ((⟨v.toArray⟩ : ByteArray)[k]'(by rw [Lib.size_mk]; omega)).toNat < 32
              · have q3 : decide ((((⟨v.toArray⟩ : ByteArray)[k]'(by rw [Lib.size_mk]; omega)).toNat : Int) < 32) = true := decide_eq_true (by omega)
                go_wp2_with fail
                go_ret
                exact ⟨rfl, rfl⟩
              · have q3 : decide ((((⟨v.toArray⟩ : ByteArray)[k]'(by rw [Lib.size_mk]; omega)).toNat : Int) < 32) = false := decide_eq_false (by omega)
                have q4 : decide (126 < (((⟨v.toArray⟩ : ByteArray)[k]'(by rw [Lib.size_mk]; omega)).toNat : Int)) = true := decide_eq_true (by omega)
                go_wp2_with fail
                go_ret
                exact ⟨rfl, rfl⟩
          · obtain rfl : k = v.length := by omega
            rw [List.drop_of_length_le (Nat.le_refl _)] at hall
            subst hall
            clear HA
            go_wp2_with fail
            go_ret
            exact ⟨rfl, rfl⟩
    · rw [show (!false && decide (V < 0) && decide (v[v.length - 1] ≠ 32) && v.all okB) = false by simp [hV0]]
      have q1 : decide (V ≥ 0) = true := decide_eq_true (by omega)
      have q1' : decide (0 ≤ V) = true := decide_eq_true (by omega)
      go_enter Tryd.func46, Tryd.ntmps46
      go_wp2_with (go_at_call 73; refine Calls.mono (show Calls _ _ _ _ _ from k1) ?_; rintro e w' ⟨rfl, rfl⟩)
      go_ret
      exact ⟨rfl, rfl⟩

theorem app_mk (a b : List UInt8) : (⟨a.toArray⟩ ++ ⟨b.toArray⟩ : ByteArray) = ⟨(a ++ b).toArray⟩ := by
  apply ByteArray.ext
  simp [ByteArray.data_append]
theorem IsW.drew {B b : Nat} {l : List UInt8} {w : World} (h : IsW B b l w) : IsW B b l w.drew := h
theorem IsW.below {B b : Nat} {l : List UInt8} {w w' : World} (h : IsW B b l w) (hb : Below w.heap.size w w') : IsW B b l w' := by
  have : ∀ p, WAt B b p l w → WAt B b p l w' := by
    rintro p ⟨hB, v, hbk, hown, hne⟩
    exact ⟨hB, v, by rw [hb.block b (Array.getElem?_eq_some_iff.1 hbk).1]; exact hbk, own_below hown hb, hne⟩
  exact h.elim (fun x => .inl (this _ x)) (fun x => .inr (this _ x))
def lineB (name v : List UInt8) : List UInt8 := if plainB v then name ++ [58, 32] ++ v ++ [10] else name ++ [58, 58, 32] ++ b64 v ++ [10]
set_option maxRecDepth 100000 in
set_option maxHeartbeats 2000000 in
theorem line_any (B b : Nat) (l name v : List UInt8) (w : World) (h : IsW B b l w) (hl : l.length ≤ 1099511627776) (hn : name.length ≤ 1099511627776) (hv : v.length ≤ 1099511627776) (hBw : B ≤ w.heap.size) :
    Calls Tryd.prog 21 #[.pointer (some ⟨b, 0, none⟩), .string ⟨name.toArray⟩, .string ⟨v.toArray⟩] w fun e w' => e = .returned (.tuple #[]) ∧ (IsW B b (l ++ lineB name v) w' ∧ Below B w w' ∧ WKept b w w') := by
  have k1 := isPlain_any v w hv
  unfold lineB
  obtain ⟨q, hq⟩ : ∃ q, plainB v = q := ⟨_, rfl⟩
  rw [hq] at k1 ⊢
  clear hq
  cases q
  · rw [if_neg (by simp)]
    have k2 := Base64_any v w.drew hv
    have hEl := b64_length v.length v (Nat.le_refl _)
    obtain ⟨E, hE⟩ : ∃ E, b64 v = E := ⟨_, rfl⟩
    rw [hE] at k2 hEl ⊢
    clear hE
    have hM : (⟨name.toArray⟩ ++ ⟨#[58, 58, 32]⟩ ++ ⟨E.toArray⟩ ++ ⟨#[10]⟩ : ByteArray) = ⟨(name ++ [58, 58, 32] ++ E ++ [10]).toArray⟩ := by
      rw [app_mk name, app_mk, app_mk]
    have hMl : (name ++ [58, 58, 32] ++ E ++ [10]).length ≤ 8796093022208 := by simp; omega
    obtain ⟨M, hMe⟩ : ∃ M, name ++ [58, 58, 32] ++ E ++ [10] = M := ⟨_, rfl⟩
    rw [hMe] at hM hMl ⊢
    have hEl2 : E.length ≤ 2199023255552 := by omega
    clear hMe hEl
    go_enter Tryd.func21, Tryd.ntmps21
    go_wp2_with (go_at_call 46; refine k1.mono ?_; rintro e w' ⟨rfl, rfl⟩)
    go_region_with (first | (go_at_call 17; refine k2.mono ?_; rintro e w2 ⟨rfl, hb2⟩) | (go_at_call 47; (try rw [hM]); refine (W_WriteString B b l M w2 (IsW.below (IsW.drew h) hb2) hl hMl (Nat.le_trans hBw hb2.size)).mono ?_; rintro e w3 ⟨rfl, hw3, hb3, hkw3⟩))
    all_goals (go_wp2; go_end0; exact ⟨rfl, hw3, ((Below.drew (Below.refl B w)).trans (hb2.mono hBw)).trans hb3, ((WKept.of_below (Below.drew (Below.refl _ w))).trans (WKept.of_below hb2)).trans hkw3⟩)
  · rw [if_pos rfl]
    have hM : (⟨name.toArray⟩ ++ ⟨#[58, 32]⟩ ++ ⟨v.toArray⟩ ++ ⟨#[10]⟩ : ByteArray) = ⟨(name ++ [58, 32] ++ v ++ [10]).toArray⟩ := by
      rw [app_mk name, app_mk, app_mk]
    have hMl : (name ++ [58, 32] ++ v ++ [10]).length ≤ 8796093022208 := by simp; omega
    obtain ⟨M, hMe⟩ : ∃ M, name ++ [58, 32] ++ v ++ [10] = M := ⟨_, rfl⟩
    rw [hMe] at hM hMl ⊢
    clear hMe
    have k3 := W_WriteString B b l M w h hl hMl hBw
    go_enter Tryd.func21, Tryd.ntmps21
    go_wp2_with (first | (go_at_call 46; refine k1.mono ?_; rintro e w' ⟨rfl, rfl⟩) | (go_at_call 47; (try rw [hM]); refine k3.mono ?_; rintro e w3 ⟨rfl, hw3, hb3, hkw3⟩))
    (try simp only [Exit.inBlock, Exit.then])
    refine bodyPost_ret (results_none rfl _ _ _) rfl ?_
    exact ⟨rfl, hw3, hb3, hkw3⟩
end Go.Proofs.YtehpdodjncabkaaDoor
