/- The law PrepBlanks: walked. -/
import Derived.Test.YtlbfmapbpbpipaaDoorLawFolds
import Derived.Test.YtlbfmapbpbpipaaDoorPlainBlanks
namespace Go.Proofs.YtlbfmapbpbpipaaDoor
open Go.RowKit Go.Lib

theorem get_list (l : List UInt8) (k : Nat) (h : k < (⟨l.toArray⟩ : ByteArray).size) (h' : k < l.length) : (⟨l.toArray⟩ : ByteArray)[k]'h = l[k] := rfl

theorem app_mk (a b : List UInt8) : (⟨a.toArray⟩ : ByteArray) ++ ⟨b.toArray⟩ = ⟨(a ++ b).toArray⟩ := by
  apply ByteArray.ext
  simp
theorem dbl_length (l : List UInt8) : (dbl l).length ≤ 3 * l.length := by
  induction l with
  | nil => simp [dbl]
  | cons b l ih => rw [dbl_cons]; split <;> (simp; omega)
theorem dbl_step (l : List UInt8) (k : Nat) (h : k < l.length) : (⟨(dbl (l.take k)).toArray⟩ : ByteArray) ++ (⟨l.toArray⟩ : ByteArray).extract k (k + 1) = ⟨(dbl (l.take k) ++ [l[k]]).toArray⟩ := by
  rw [Lib.extract_mk, app_mk, List.drop_eq_getElem_cons h, Nat.add_sub_cancel_left]
  rfl
theorem dbl_take (l : List UInt8) (k : Nat) (h : k < l.length) : dbl (l.take (k + 1)) = dbl (l.take k) ++ (if l[k] = 32 then [32, 9, 32] else [l[k]]) := by
  rw [List.take_succ_eq_append_getElem h, dbl_snoc]

def In3 (l : List UInt8) (a b c : UInt8) (k : Nat) : Prop := ∀ j, (hj : j < l.length) → j < k → l[j] = a ∨ l[j] = b ∨ l[j] = c
theorem in3_zero (l : List UInt8) (a b c : UInt8) : In3 l a b c 0 := fun j _ hj => by omega
theorem in3_succ {l : List UInt8} {a b c : UInt8} {k : Nat} (h : In3 l a b c k) (hk : k < (⟨l.toArray⟩ : ByteArray).size) (hx : ((⟨l.toArray⟩ : ByteArray)[k]'hk).toNat = a.toNat ∨ ((⟨l.toArray⟩ : ByteArray)[k]'hk).toNat = b.toNat ∨ ((⟨l.toArray⟩ : ByteArray)[k]'hk).toNat = c.toNat) : In3 l a b c (k + 1) := by
  intro j hj hjk
  by_cases e : j = k
  · subst e
    rcases hx with hx | hx | hx
    · exact .inl (UInt8.toNat_inj.1 hx)
    · exact .inr (.inl (UInt8.toNat_inj.1 hx))
    · exact .inr (.inr (UInt8.toNat_inj.1 hx))
  · exact h j hj (by omega)
theorem in3_all {l : List UInt8} {a b c : UInt8} {k : Nat} (h : In3 l a b c k) (hk : l.length ≤ k) : ∀ x ∈ l, x = a ∨ x = b ∨ x = c := by
  intro x hx
  obtain ⟨j, hj, rfl⟩ := List.getElem_of_mem hx
  exact h j hj (by omega)

set_option maxRecDepth 100000 in
set_option maxHeartbeats 4000000 in
theorem PrepBlanks_any (l h t : List UInt8) (fold : Bool) (w : World) (hl : l.length ≤ 140737488351232) (hh : h.length ≤ 140737488351232) (ht : t.length ≤ 140737488351232) (hE : Env w) :
    Calls Tryd.prog 6 #[.string ⟨l.toArray⟩, .string ⟨h.toArray⟩, .string ⟨t.toArray⟩, .bool fold] w fun e w' => e = .returned (.bool true) ∧ Below w.heap.size w w' := by
  have HE := Lib.hid hE
  clear hE
  by_cases h1 : 3000 < l.length
  · have h1z : (3000 : Int) < (l.length : Int) := by omega
    go_enter Tryd.func6, Tryd.ntmps6
    go_wp2_with fail
    refine (alive_any w HE.out).mono ?_
    rintro e w1 ⟨rfl, hb1⟩
    go_wp2_with fail
    go_ret
    exact ⟨rfl, hb1⟩
  · have h1z : (l.length : Int) ≤ 3000 := by omega
    by_cases h2 : 100 < h.length + t.length
    · have h2z : (100 : Int) < (h.length : Int) + (t.length : Int) := by omega
      go_enter Tryd.func6, Tryd.ntmps6
      go_wp2_with fail
      refine (alive_any w HE.out).mono ?_
      rintro e w1 ⟨rfl, hb1⟩
      go_wp2_with fail
      go_ret
      exact ⟨rfl, hb1⟩
    · have h2z : (h.length : Int) + (t.length : Int) ≤ 100 := by omega
      by_cases h3 : l = []
      · subst h3
        go_enter Tryd.func6, Tryd.ntmps6
        go_wp2_with fail
        refine (alive_any w HE.out).mono ?_
        rintro e w1 ⟨rfl, hb1⟩
        go_wp2_with fail
        go_ret
        exact ⟨rfl, hb1⟩
      · have hl0 : l.isEmpty = false := by cases l <;> simp_all
        have d1 : decide ((3000 : Int) < (l.length : Int)) = false := by simp; omega
        have d2 : decide ((100 : Int) < (h.length : Int) + (t.length : Int)) = false := by simp; omega
        go_enter Tryd.func6, Tryd.ntmps6
        go_wp2_with fail
        clear hl0 d1 d2
        have hb0 : Below w.heap.size w w := Below.refl _ _
        go_loop [9] (fun i => ∃ k : Nat, i = .int .i64 k ∧ k ≤ h.length ∧ Hid (In3 h 32 9 10 k)) (fun i => h.length - (RowKit.intOf i).toNat)
        case atStart => exact ⟨0, rfl, by omega, Lib.hid (in3_zero _ _ _ _)⟩
        case round =>
          obtain ⟨k, rfl, hk, HH⟩ := hrel
          by_cases hlt : k < h.length
          · go_wp2_with fail
            all_goals first
              | (refine (alive_any w HE.out).mono ?_; rintro e w1 ⟨rfl, hb1⟩; go_wp2_with fail; go_ret; exact ⟨rfl, hb1⟩)
              | (have hsz : k < (⟨h.toArray⟩ : ByteArray).size := (by rw [Lib.size_mk]; exact hlt); have hx : ((⟨h.toArray⟩ : ByteArray)[k]'hsz).toNat = 32 ∨ ((⟨h.toArray⟩ : ByteArray)[k]'hsz).toNat = 9 ∨ ((⟨h.toArray⟩ : ByteArray)[k]'hsz).toNat = 10 := (by (try simp only [bne_eq_false_iff_eq] at *); omega); go_round; (case rel => exact ⟨k + 1, by go_num, by omega, Lib.hid (in3_succ HH.out hsz hx)⟩); (case measure => simp [RowKit.intOf]; omega))
          · have HH2 := Lib.hid (in3_all HH.out (by omega))
            clear HH
            go_wp2_with fail
            go_loop [10] (fun i => ∃ k : Nat, i = .int .i64 k ∧ k ≤ t.length ∧ Hid (In3 t 32 9 13 k)) (fun i => t.length - (RowKit.intOf i).toNat)
            case atStart => exact ⟨0, rfl, by omega, Lib.hid (in3_zero _ _ _ _)⟩
            case round =>
              obtain ⟨k2, rfl, hk2, HT⟩ := hrel
              by_cases hlt2 : k2 < t.length
              · go_wp2_with fail
                all_goals first
                  | (refine (alive_any w HE.out).mono ?_; rintro e w1 ⟨rfl, hb1⟩; go_wp2_with fail; go_ret; exact ⟨rfl, hb1⟩)
                  | (have hsz : k2 < (⟨t.toArray⟩ : ByteArray).size := (by rw [Lib.size_mk]; exact hlt2); have hx : ((⟨t.toArray⟩ : ByteArray)[k2]'hsz).toNat = 32 ∨ ((⟨t.toArray⟩ : ByteArray)[k2]'hsz).toNat = 9 ∨ ((⟨t.toArray⟩ : ByteArray)[k2]'hsz).toNat = 13 := (by (try simp only [bne_eq_false_iff_eq] at *); omega); go_round; (case rel => exact ⟨k2 + 1, by go_num, by omega, Lib.hid (in3_succ HT.out hsz hx)⟩); (case measure => simp [RowKit.intOf]; omega))
              · have HT2 := Lib.hid (in3_all HT.out (by omega))
                clear HT
                go_wp2_with fail
                go_loop [11, 12] (fun d i => ∃ k : Nat, i = .int .i64 k ∧ k ≤ l.length ∧ d = .string ⟨(dbl (l.take k)).toArray⟩) (fun _ i => l.length - (RowKit.intOf i).toNat)
                case atStart => exact ⟨0, rfl, by omega, rfl⟩
                case round =>
                  obtain ⟨k3, rfl, hk3, rfl⟩ := hrel
                  by_cases hlt3 : k3 < l.length
                  · have hd : (dbl (l.take k3)).length ≤ 9000 := by
                      have := dbl_length (l.take k3)
                      rw [List.length_take] at this
                      omega
                    by_cases h32 : l[k3] = 32
                    · have hsz : k3 < (⟨l.toArray⟩ : ByteArray).size := by rw [Lib.size_mk]; exact hlt3
                      have hx : ((((⟨l.toArray⟩ : ByteArray)[k3]'hsz).toNat : Int) == 32) = true := by
                        rw [get_list l k3 hsz hlt3, h32]; rfl
                      go_wp2_with fail
                      go_round
                      case rel =>
                        refine ⟨k3 + 1, by go_num, by omega, ?_⟩
                        rw [dbl_step l k3 hlt3, dbl_take l k3 hlt3, h32, if_pos rfl]
                        rw [show (⟨#[9, 32]⟩ : ByteArray) = ⟨([9, 32] : List UInt8).toArray⟩ from rfl, app_mk]
                        simp
                      case measure => simp [RowKit.intOf]; omega
                    · have hsz : k3 < (⟨l.toArray⟩ : ByteArray).size := by rw [Lib.size_mk]; exact hlt3
                      have hx : ((((⟨l.toArray⟩ : ByteArray)[k3]'hsz).toNat : Int) == 32) = false := by
                        rw [get_list l k3 hsz hlt3, beq_eq_false_iff_ne]
                        intro hh
                        apply h32
                        apply UInt8.toNat_inj.1
                        have : (32 : UInt8).toNat = 32 := rfl
                        omega
                      go_wp2_with fail
                      go_round
                      case rel =>
                        refine ⟨k3 + 1, by go_num, by omega, ?_⟩
                        rw [dbl_step l k3 hlt3, dbl_take l k3 hlt3, if_neg h32]
                      case measure => simp [RowKit.intOf]; omega
                  · have hk : l.take k3 = l := List.take_of_length_le (by omega)
                    rw [hk]
                    have hd := dbl_length l
                    clear hk
                    have hp := prep_blanks l h t fold h3 HH2.out HT2.out
                    have c1 := Prepare_l l fold w (by omega) HE.out
                    have c2 := fun w hE => Prepare_l (h ++ dbl l ++ t) fold w (by simp only [List.length_append]; omega) hE
                    rw [hp] at c2
                    have C2 := Lib.hid c2
                    obtain ⟨P, hP⟩ : ∃ P, prepL l fold = P := ⟨_, rfl⟩
                    rw [hP] at c1 C2
                    clear hp hP c2 HH2 HT2
                    go_wp2_with fail
                    refine c1.mono ?_
                    rintro e w1 ⟨rfl, hb1⟩
                    cases P with
                    | none =>
                      simp only [strOk] at C2 ⊢
                      go_wp2_with fail
                      rw [app_mk, app_mk]
                      refine (C2.out _ (HE.out.below hb1)).mono ?_
                      rintro e w2 ⟨rfl, hb2⟩
                      have hb := below_ext hb1 hb2
                      go_wp2_with fail
                      refine (alive_any _ (HE.out.below hb)).mono ?_
                      rintro e w3 ⟨rfl, hb3⟩
                      go_wp2_with fail
                      go_ret
                      exact ⟨rfl, below_ext hb hb3⟩
                    | some a =>
                      simp only [strOk] at C2 ⊢
                      go_wp2_with fail
                      rw [app_mk, app_mk]
                      refine (C2.out _ (HE.out.below hb1)).mono ?_
                      rintro e w2 ⟨rfl, hb2⟩
                      have hb := below_ext hb1 hb2
                      go_wp2_with fail
                      refine (alive_any _ (HE.out.below hb)).mono ?_
                      rintro e w3 ⟨rfl, hb3⟩
                      go_wp2_with fail
                      go_ret
                      exact ⟨by simp, below_ext hb hb3⟩
end Go.Proofs.YtlbfmapbpbpipaaDoor
