/- PlainRef, RefV, Kg, PlainBook, BgA. -/
import Derived.Maps.AppendAt
import Derived.Deep.AppendLies
import Derived.Laws.OwnMore
import Derived.Deep.Draws
import Derived.Test.YtegigcneimjimaaGreatDoorU9
namespace Go.Proofs.YtegigcneimjimaaGreatDoor
open Go.Lib
open Go.RowKit Go.Lib
set_option maxRecDepth 100000
set_option maxHeartbeats 16000000
def dg (c : UInt8) : Nat := (indexByte tab64 c).toNat
def bad (c : UInt8) : Bool := decide (indexByte tab64 c < 0)
def rn (c d : UInt8) : Nat := if bad c then 1 else if bad d then 2 else 3
def rv (a b c d : UInt8) : Nat := ((dg a * 64 + dg b) * 64 + dg c) * 64 + dg d
def rthree (a b c d : UInt8) : List UInt8 := [UInt8.ofNat (rv a b c d / 65536), UInt8.ofNat (rv a b c d / 256 % 256), UInt8.ofNat (rv a b c d % 256)]
def rchunk : List UInt8 → List UInt8
  | a :: b :: c :: d :: _ => (rthree a b c d).take (rn c d)
  | _ => []
def rdecg : Nat → List UInt8 → List UInt8
  | 0, _ => []
  | n + 1, s => if s.length < 4 then [] else rchunk s ++ rdecg n (s.drop 4)
def rdec (s : List UInt8) : List UInt8 := rdecg s.length s
theorem rdecg_fuel : ∀ (n m : Nat) (l : List UInt8), l.length ≤ n → l.length ≤ m → rdecg n l = rdecg m l
  | 0, 0, _, _, _ => rfl
  | 0, m + 1, l, h, _ => by obtain rfl : l = [] := List.eq_nil_of_length_eq_zero (by omega); rfl
  | n + 1, 0, l, _, h => by obtain rfl : l = [] := List.eq_nil_of_length_eq_zero (by omega); rfl
  | n + 1, m + 1, l, h1, h2 => by
    by_cases h : l.length < 4
    · rw [rdecg, rdecg, if_pos h, if_pos h]
    · rw [rdecg, rdecg, if_neg h, if_neg h, rdecg_fuel n m (l.drop 4) (by rw [List.length_drop]; omega) (by rw [List.length_drop]; omega)]
theorem rdec_end (l : List UInt8) (h : l.length < 4) : rdec l = [] := by
  unfold rdec
  cases hn : l.length with
  | zero => rfl
  | succ n => rw [rdecg, if_pos h]
theorem rdec_step (l : List UInt8) (h : 4 ≤ l.length) : rdec l = rchunk l ++ rdec (l.drop 4) := by
  obtain ⟨n, hn⟩ : ∃ n, l.length = n + 1 := ⟨l.length - 1, by omega⟩
  unfold rdec
  rw [hn, rdecg, if_neg (by omega)]
  rw [rdecg_fuel n (l.drop 4).length (l.drop 4) (by rw [List.length_drop]; omega) (Nat.le_refl _)]
theorem dg_dig (n : Nat) (h : n < 64) : dg (dig n) = n := by unfold dg; rw [(dig_ne n h).2]; rfl
theorem bad_dig (n : Nat) (h : n < 64) : bad (dig n) = false := by unfold bad; rw [(dig_ne n h).2]; exact decide_eq_false (by omega)
theorem dg_61 : dg 61 = 0 := by decide +kernel
theorem bad_61 : bad 61 = true := by decide +kernel
theorem dg_lt (c : UInt8) : dg c < 64 := by have := tab_lt c; unfold dg; omega
theorem rchunk_quad (l t : List UInt8) (h : l ≠ []) : rchunk (quad l ++ t) = l.take 3 := by
  match l, h with
  | [a], _ =>
    have ha := UInt8.toNat_lt a
    show (rthree (dig (a.toNat / 4)) (dig (a.toNat % 4 * 16)) 61 61).take (rn 61 61) = [a]
    rw [show rn 61 61 = 1 by unfold rn; rw [bad_61]; rfl]
    have hv : rv (dig (a.toNat / 4)) (dig (a.toNat % 4 * 16)) 61 61 = ((a.toNat / 4 * 64 + a.toNat % 4 * 16) * 64 + 0) * 64 + 0 := by
      unfold rv; rw [dg_dig _ (by omega), dg_dig _ (by omega), dg_61]
    unfold rthree
    rw [hv, u8_eq a _ (by omega)]
    rfl
  | [a, b], _ =>
    have ha := UInt8.toNat_lt a
    have hb := UInt8.toNat_lt b
    show (rthree (dig (a.toNat / 4)) (dig (a.toNat % 4 * 16 + b.toNat / 16)) (dig (b.toNat % 16 * 4)) 61).take (rn (dig (b.toNat % 16 * 4)) 61) = [a, b]
    rw [show rn (dig (b.toNat % 16 * 4)) 61 = 2 by unfold rn; rw [bad_61, bad_dig _ (by omega)]; rfl]
    have hv : rv (dig (a.toNat / 4)) (dig (a.toNat % 4 * 16 + b.toNat / 16)) (dig (b.toNat % 16 * 4)) 61 = ((a.toNat / 4 * 64 + (a.toNat % 4 * 16 + b.toNat / 16)) * 64 + b.toNat % 16 * 4) * 64 + 0 := by
      unfold rv; rw [dg_dig _ (by omega), dg_dig _ (by omega), dg_dig _ (by omega), dg_61]
    unfold rthree
    rw [hv, u8_eq a _ (by omega), u8_eq b _ (by omega)]
    rfl
  | a :: b :: c :: r, _ =>
    have ha := UInt8.toNat_lt a
    have hb := UInt8.toNat_lt b
    have hc := UInt8.toNat_lt c
    show (rthree (dig (a.toNat / 4)) (dig (a.toNat % 4 * 16 + b.toNat / 16)) (dig (b.toNat % 16 * 4 + c.toNat / 64)) (dig (c.toNat % 64))).take (rn (dig (b.toNat % 16 * 4 + c.toNat / 64)) (dig (c.toNat % 64))) = [a, b, c]
    rw [show rn (dig (b.toNat % 16 * 4 + c.toNat / 64)) (dig (c.toNat % 64)) = 3 by unfold rn; rw [bad_dig _ (by omega), bad_dig _ (by omega)]; rfl]
    have hv : rv (dig (a.toNat / 4)) (dig (a.toNat % 4 * 16 + b.toNat / 16)) (dig (b.toNat % 16 * 4 + c.toNat / 64)) (dig (c.toNat % 64)) = ((a.toNat / 4 * 64 + (a.toNat % 4 * 16 + b.toNat / 16)) * 64 + (b.toNat % 16 * 4 + c.toNat / 64)) * 64 + c.toNat % 64 := by
      unfold rv; rw [dg_dig _ (by omega), dg_dig _ (by omega), dg_dig _ (by omega), dg_dig _ (by omega)]
    unfold rthree
    rw [hv, u8_eq a _ (by omega), u8_eq b _ (by omega), u8_eq c _ (by omega)]
    rfl
theorem rdec_b64 : ∀ (n : Nat) (l : List UInt8), l.length ≤ n → rdec (b64 l) = l
  | n, [], _ => rfl
  | 0, a :: l, h => by simp at h
  | n + 1, a :: l, h => by
    have hq := quad_length (a :: l) (by simp)
    rw [b64_step _ (by simp), rdec_step _ (by rw [List.length_append]; omega), rchunk_quad _ _ (by simp)]
    rw [show (quad (a :: l) ++ b64 ((a :: l).drop 3)).drop 4 = b64 ((a :: l).drop 3) by rw [← hq, List.drop_left]]
    rw [rdec_b64 n ((a :: l).drop 3) (by rw [List.length_drop]; simp at h ⊢; omega), List.take_append_drop]
theorem unb_ref (s : List UInt8) : unb s = if b64 (rdec s) = s then some (rdec s) else none := by
  split
  · rename_i h
    exact (unb_some s (rdec s)).2 h
  · rename_i h
    cases hu : unb s with
    | none => rfl
    | some b =>
      exfalso
      have hb := (unb_some s b).1 hu
      apply h
      rw [← hb, rdec_b64 b.length b (Nat.le_refl _)]
theorem r18digit_any (c : UInt8) (w : World) :
    Calls Tryz.prog 266 #[.int .u8 (c.toNat : Int)] w fun e w' => e = .returned (.int .i64 (indexByte tab64 c)) ∧ w = w' := by
  obtain ⟨ANS, hA⟩ : ∃ ANS, indexByte tab64 c = ANS := ⟨_, rfl⟩
  rw [hA]
  have HA := Lib.hid hA
  clear hA
  go_enter Tryz.func266, Tryz.ntmps266
  go_wp2_with fail
  go_loop [3] (fun i => ∃ k : Nat, i = .int .i64 (k : Int) ∧ k ≤ 64 ∧ ∀ j, j < k → tab64[j]? ≠ some c) (fun i => (64 - RowKit.intOf i).toNat)
  case atStart => exact ⟨0, rfl, by omega, fun j hj => by omega⟩
  case round =>
    obtain ⟨k, rfl, hk, hno⟩ := hrel
    have HN := Lib.hid hno
    clear hno
    by_cases h64 : k < 64
    · have hlit : ∀ h, (⟨#[65, 66, 67, 68, 69, 70, 71, 72, 73, 74, 75, 76, 77, 78, 79, 80, 81, 82, 83, 84, 85, 86, 87, 88, 89, 90, 97, 98, 99, 100, 101, 102, 103, 104, 105, 106, 107, 108, 109, 110, 111, 112, 113, 114, 115, 116, 117, 118, 119, 120, 121, 122, 48, 49, 50, 51, 52, 53, 54, 55, 56, 57, 43, 47]⟩ : ByteArray)[k]'h = dig k := fun h => tab_get k h64 h
      have hdk := dig_get k h64
      obtain ⟨x, hx⟩ : ∃ x, dig k = x := ⟨_, rfl⟩
      rw [hx] at hdk
      have HX := Lib.hid hdk
      simp only [hx] at hlit
      clear hx hdk
      by_cases hxc : x = c
      · subst hxc
        have hans : ANS = (k : Int) := by rw [← HA.out]; exact indexByte_at _ _ _ HN.out HX.out
        clear HA HN HX
        subst hans
        go_wp2_with fail
        go_ret
        exact ⟨rfl, rfl⟩
      · have hbq : ((x.toNat : Int) == (c.toNat : Int)) = false := by
          rw [beq_eq_false_iff_ne]
          intro h
          exact hxc (UInt8.toNat.inj (by omega))
        have hno2 : ∀ j, j < k + 1 → tab64[j]? ≠ some c := by
          intro j hj
          rcases Nat.lt_or_ge j k with h | h
          · exact HN.out j h
          · obtain rfl : j = k := by omega
            rw [HX.out]
            intro h
            exact hxc (Option.some.inj h)
        have HN2 := Lib.hid hno2
        clear hno2 hxc HN HX HA
        go_wp2_with fail
        exact ⟨⟨k + 1, by go_num, by omega, HN2.out⟩, by simp [RowKit.intOf]; omega⟩
    · obtain rfl : k = 64 := by omega
      have hans : ANS = -1 := by rw [← HA.out]; exact indexByte_no _ _ HN.out
      subst hans
      clear HA HN
      go_wp2_with fail
      go_ret
      exact ⟨rfl, rfl⟩
def U3 (a b c d : UInt8) (v n k : Value) : Prop :=
  (k = .int .i64 0 ∧ v = .int .i64 0 ∧ n = .int .i64 3) ∨ (k = .int .i64 1 ∧ v = .int .i64 (dg a : Nat) ∧ n = .int .i64 3) ∨ (k = .int .i64 2 ∧ v = .int .i64 ((dg a * 64 + dg b : Nat) : Int) ∧ n = .int .i64 3) ∨
  (k = .int .i64 3 ∧ v = .int .i64 (((dg a * 64 + dg b) * 64 + dg c : Nat) : Int) ∧ n = .int .i64 (if bad c then 1 else 3)) ∨ (k = .int .i64 4 ∧ v = .int .i64 (rv a b c d : Nat) ∧ n = .int .i64 (rn c d : Nat))
def URel2 (w : World) (s ANS : List UInt8) (v i : Value) (wr : World) : Prop :=
  ∃ (k : Nat) (o : List UInt8), i = .int .i64 (k : Int) ∧ k ≤ s.length ∧ o.length ≤ k ∧ wr.ownsRow w.heap.size 5 1 v o.length (bV o) ∧ Below w.heap.size w wr ∧ o ++ rdec (s.drop k) = ANS
theorem good_dg {c : UInt8} {V : Int} (h : indexByte tab64 c = V) (hV : ¬ V < 0) : V = (dg c : Nat) ∧ bad c = false := by
  unfold dg bad
  rw [h]
  exact ⟨by omega, decide_eq_false hV⟩
theorem bad_dg {c : UInt8} {V : Int} (h : indexByte tab64 c = V) (hV : V < 0) : dg c = 0 ∧ bad c = true := by
  unfold dg bad
  rw [h]
  exact ⟨by omega, decide_eq_true hV⟩
theorem get_drop4 {s : List UInt8} {k : Nat} (h : k + 4 ≤ s.length) : ∃ a b c d t, s.drop k = a :: b :: c :: d :: t ∧ s.drop (k + 4) = t := by
  have e : ∀ j, k + j < s.length → s.drop (k + j) = s.getD (k + j) 0 :: s.drop (k + j + 1) := by
    intro j hj
    rw [List.drop_eq_getElem_cons hj, List.getD_eq_getElem?_getD, List.getElem?_eq_getElem hj]
    rfl
  refine ⟨s.getD (k + 0) 0, s.getD (k + 1) 0, s.getD (k + 2) 0, s.getD (k + 3) 0, s.drop (k + 4), ?_, rfl⟩
  · have e0 := e 0 (by omega)
    have e1 := e 1 (by omega)
    have e2 := e 2 (by omega)
    have e3 := e 3 (by omega)
    simp only [Nat.add_zero, Nat.add_assoc, Nat.reduceAdd] at e0 e1 e2 e3 ⊢
    rw [e0, e1, e2, e3]
theorem byte_of_drop {s : List UInt8} {k j : Nat} {x : UInt8} (h : (s.drop k)[j]? = some x) (h' : k + j < (⟨s.toArray⟩ : ByteArray).size) : (⟨s.toArray⟩ : ByteArray)[k + j]'h' = x := by
  rw [List.getElem?_drop] at h
  have hl : k + j < s.length := by rw [Lib.size_mk] at h'; exact h'
  rw [List.getElem?_eq_getElem hl] at h
  exact Option.some.inj h
theorem RUnbase64_any (s : List UInt8) (w : World) (hl : s.length ≤ 1099511627776) :
    Calls Tryz.prog 231 #[.string ⟨s.toArray⟩] w fun e w' => e = .returned (.tuple #[.string ⟨((unb s).getD []).toArray⟩, .int .i64 (if (unb s).isSome then 0 else 110)]) ∧ Below w.heap.size w w' := by
  obtain ⟨A, hA⟩ : ∃ A, unb s = A := ⟨_, rfl⟩
  rw [hA]
  rw [unb_ref] at hA
  obtain ⟨D, hD⟩ : ∃ D, rdec s = D := ⟨_, rfl⟩
  rw [hD] at hA
  have HD := Lib.hid hD
  have HU := Lib.hid hA
  clear hD hA
  go_enter Tryz.func231, Tryz.ntmps231
  go_wp2_with fail
  go_loopw [4, 5] (fun v i wr => URel2 w s D v i wr) (fun _ i _ => s.length - (RowKit.intOf i).toNat)
  case atStart => exact ⟨0, [], rfl, by omega, by simp, World.ownsRow_nil _ _ _ _, Below.refl _ _, HD.out⟩
  case round =>
    obtain ⟨k, o, rfl, hk, ho, hown, hbe, hans⟩ := hrel
    have HA := Lib.hid hans
    clear hans HD
    have hsz := hbe.size
    by_cases hks : k + 4 ≤ s.length
    · obtain ⟨a, b, c, d, t, hdr, hdr4⟩ := get_drop4 hks
      have hg0 : ∀ h, (⟨s.toArray⟩ : ByteArray)[k]'h = a := fun h => byte_of_drop (j := 0) (by rw [hdr]; rfl) h
      have hg1 : ∀ h, (⟨s.toArray⟩ : ByteArray)[k + 1]'h = b := fun h => byte_of_drop (j := 1) (by rw [hdr]; rfl) h
      have hg2 : ∀ h, (⟨s.toArray⟩ : ByteArray)[k + 2]'h = c := fun h => byte_of_drop (j := 2) (by rw [hdr]; rfl) h
      have hg3 : ∀ h, (⟨s.toArray⟩ : ByteArray)[k + 3]'h = d := fun h => byte_of_drop (j := 3) (by rw [hdr]; rfl) h
      have hans := HA.out
      rw [hdr, rdec_step _ (by simp), ← List.append_assoc] at hans
      simp only [List.drop_succ_cons, List.drop_zero, ← hdr4] at hans
      have HS := Lib.hid hans
      clear hans HA hdr hdr4
      have ra := dg_lt a
      have rb := dg_lt b
      have rc := dg_lt c
      have rd := dg_lt d
      have z1 : ((k : Int) + 1).toNat = k + 1 := by omega
      have z2 : ((k : Int) + 2).toNat = k + 2 := by omega
      have z3 : ((k : Int) + 3).toNat = k + 3 := by omega
      have hdec : decide ((k : Int) + 4 ≤ (s.length : Int)) = true := decide_eq_true (by omega)
      go_wp2_with fail
      go_loopw [6, 7, 8] (fun v n kv wq => U3 a b c d v n kv ∧ wq = wr) (fun _ _ kv _ => (4 - RowKit.intOf kv).toNat)
      case atStart => exact ⟨.inl ⟨rfl, rfl, rfl⟩, rfl⟩
      case round =>
        obtain ⟨hrel, rfl⟩ := hrel
        rcases hrel with ⟨rfl, rfl, rfl⟩ | ⟨rfl, rfl, rfl⟩ | ⟨rfl, rfl, rfl⟩ | ⟨rfl, rfl, rfl⟩ | ⟨rfl, rfl, rfl⟩
        · have kd := r18digit_any a wr
          obtain ⟨V, hV⟩ : ∃ V, indexByte tab64 a = V := ⟨_, rfl⟩
          rw [hV] at kd
          by_cases hV0 : V < 0
          · have hb := bad_dg hV hV0
            have q1 : decide (V < 0) = true := decide_eq_true hV0
            have HB := Lib.hid hb
            clear hb hV
            go_wp2_with (go_at_call 266; refine Calls.mono (show Calls _ _ _ _ _ from kd) ?_; rintro e w' ⟨rfl, rfl⟩)
            go_roundw
            case measure => simp [RowKit.intOf]
            case rel =>
            refine ⟨.inr (.inl (⟨rfl, ?_, ?_⟩)), trivial⟩
            · rw [HB.out.1]; rfl
            · rfl
          · have hb := good_dg hV hV0
            have q1 : decide (V < 0) = false := decide_eq_false hV0
            obtain ⟨Z, hZ⟩ : ∃ Z, dg a = Z := ⟨_, rfl⟩
            have hVZ : V = (Z : Int) := by rw [hb.1, hZ]
            have hZl : Z < 64 := by omega
            subst hVZ
            have HB := Lib.hid hb
            have HZ := Lib.hid hZ
            clear hb hV hZ
            go_wp2_with (go_at_call 266; refine Calls.mono (show Calls _ _ _ _ _ from kd) ?_; rintro e w' ⟨rfl, rfl⟩)
            go_roundw
            case measure => simp [RowKit.intOf]
            case rel =>
            refine ⟨.inr (.inl (⟨rfl, ?_, ?_⟩)), trivial⟩
            · rw [HZ.out]
            · rfl
        · have kd := r18digit_any b wr
          obtain ⟨V, hV⟩ : ∃ V, indexByte tab64 b = V := ⟨_, rfl⟩
          rw [hV] at kd
          obtain ⟨P, hP⟩ : ∃ P, dg a = P := ⟨_, rfl⟩
          have hPl : P < 64 := by omega
          rw [hP]
          by_cases hV0 : V < 0
          · have hb := bad_dg hV hV0
            have q1 : decide (V < 0) = true := decide_eq_true hV0
            have HB := Lib.hid hb
            have HP := Lib.hid hP
            clear hb hV hP
            go_wp2_with (go_at_call 266; refine Calls.mono (show Calls _ _ _ _ _ from kd) ?_; rintro e w' ⟨rfl, rfl⟩)
            go_roundw
            case measure => simp [RowKit.intOf]
            case rel =>
            refine ⟨.inr (.inr (.inl (⟨rfl, ?_, ?_⟩))), trivial⟩
            · have hh : dg a * 64 + dg b = P * 64 + 0 := by rw [HP.out, HB.out.1]
              rw [hh]
              simp
            · rfl
          · have hb := good_dg hV hV0
            have q1 : decide (V < 0) = false := decide_eq_false hV0
            obtain ⟨Z, hZ⟩ : ∃ Z, dg b = Z := ⟨_, rfl⟩
            have hVZ : V = (Z : Int) := by rw [hb.1, hZ]
            have hZl : Z < 64 := by omega
            subst hVZ
            have HB := Lib.hid hb
            have HP := Lib.hid hP
            have HZ := Lib.hid hZ
            clear hb hV hP hZ
            go_wp2_with (go_at_call 266; refine Calls.mono (show Calls _ _ _ _ _ from kd) ?_; rintro e w' ⟨rfl, rfl⟩)
            go_roundw
            case measure => simp [RowKit.intOf]
            case rel =>
            refine ⟨.inr (.inr (.inl (⟨rfl, ?_, ?_⟩))), trivial⟩
            · have hh : dg a * 64 + dg b = P * 64 + Z := by rw [HP.out, HZ.out]
              rw [hh]
              simp
            · rfl
        · have kd := r18digit_any c wr
          obtain ⟨V, hV⟩ : ∃ V, indexByte tab64 c = V := ⟨_, rfl⟩
          rw [hV] at kd
          obtain ⟨P, hP⟩ : ∃ P, dg a * 64 + dg b = P := ⟨_, rfl⟩
          have hPl : P < 4096 := by omega
          rw [hP]
          by_cases hV0 : V < 0
          · have hb := bad_dg hV hV0
            have q1 : decide (V < 0) = true := decide_eq_true hV0
            have HB := Lib.hid hb
            have HP := Lib.hid hP
            clear hb hV hP
            go_wp2_with (go_at_call 266; refine Calls.mono (show Calls _ _ _ _ _ from kd) ?_; rintro e w' ⟨rfl, rfl⟩)
            go_roundw
            case measure => simp [RowKit.intOf]
            case rel =>
            refine ⟨.inr (.inr (.inr (.inl (⟨rfl, ?_, ?_⟩)))), trivial⟩
            · have hh : (dg a * 64 + dg b) * 64 + dg c = P * 64 + 0 := by rw [HP.out, HB.out.1]
              rw [hh]
              simp
            · rw [HB.out.2]; rfl
          · have hb := good_dg hV hV0
            have q1 : decide (V < 0) = false := decide_eq_false hV0
            obtain ⟨Z, hZ⟩ : ∃ Z, dg c = Z := ⟨_, rfl⟩
            have hVZ : V = (Z : Int) := by rw [hb.1, hZ]
            have hZl : Z < 64 := by omega
            subst hVZ
            have HB := Lib.hid hb
            have HP := Lib.hid hP
            have HZ := Lib.hid hZ
            clear hb hV hP hZ
            go_wp2_with (go_at_call 266; refine Calls.mono (show Calls _ _ _ _ _ from kd) ?_; rintro e w' ⟨rfl, rfl⟩)
            go_roundw
            case measure => simp [RowKit.intOf]
            case rel =>
            refine ⟨.inr (.inr (.inr (.inl (⟨rfl, ?_, ?_⟩)))), trivial⟩
            · have hh : (dg a * 64 + dg b) * 64 + dg c = P * 64 + Z := by rw [HP.out, HZ.out]
              rw [hh]
              simp
            · rw [HB.out.2]; rfl
        · have kd := r18digit_any d wr
          obtain ⟨V, hV⟩ : ∃ V, indexByte tab64 d = V := ⟨_, rfl⟩
          rw [hV] at kd
          obtain ⟨P, hP⟩ : ∃ P, (dg a * 64 + dg b) * 64 + dg c = P := ⟨_, rfl⟩
          have hPl : P < 262144 := by omega
          rw [hP]
          by_cases hV0 : V < 0
          · have hb := bad_dg hV hV0
            have q1 : decide (V < 0) = true := decide_eq_true hV0
            by_cases hbc : bad c = true
            · rw [if_pos hbc]
              have HB := Lib.hid hb
              have HP := Lib.hid hP
              clear hb hV hP
              go_wp2_with (go_at_call 266; refine Calls.mono (show Calls _ _ _ _ _ from kd) ?_; rintro e w' ⟨rfl, rfl⟩)
              go_roundw
              case measure => simp [RowKit.intOf]
              case rel =>
              refine ⟨.inr (.inr (.inr (.inr (⟨rfl, ?_, ?_⟩)))), trivial⟩
              · have hh : rv a b c d = P * 64 + 0 := by unfold rv; rw [HP.out, HB.out.1]
                rw [hh]
                simp
              · unfold rn; rw [HB.out.2]; simp [hbc]
            · rw [if_neg hbc]
              have HB := Lib.hid hb
              have HP := Lib.hid hP
              clear hb hV hP
              go_wp2_with (go_at_call 266; refine Calls.mono (show Calls _ _ _ _ _ from kd) ?_; rintro e w' ⟨rfl, rfl⟩)
              go_roundw
              case measure => simp [RowKit.intOf]
              case rel =>
              refine ⟨.inr (.inr (.inr (.inr (⟨rfl, ?_, ?_⟩)))), trivial⟩
              · have hh : rv a b c d = P * 64 + 0 := by unfold rv; rw [HP.out, HB.out.1]
                rw [hh]
                simp
              · unfold rn; rw [HB.out.2]; simp [hbc]
          · have hb := good_dg hV hV0
            have q1 : decide (V < 0) = false := decide_eq_false hV0
            obtain ⟨Z, hZ⟩ : ∃ Z, dg d = Z := ⟨_, rfl⟩
            have hVZ : V = (Z : Int) := by rw [hb.1, hZ]
            have hZl : Z < 64 := by omega
            subst hVZ
            by_cases hbc : bad c = true
            · rw [if_pos hbc]
              have HB := Lib.hid hb
              have HP := Lib.hid hP
              have HZ := Lib.hid hZ
              clear hb hV hP hZ
              go_wp2_with (go_at_call 266; refine Calls.mono (show Calls _ _ _ _ _ from kd) ?_; rintro e w' ⟨rfl, rfl⟩)
              go_roundw
              case measure => simp [RowKit.intOf]
              case rel =>
              refine ⟨.inr (.inr (.inr (.inr (⟨rfl, ?_, ?_⟩)))), trivial⟩
              · have hh : rv a b c d = P * 64 + Z := by unfold rv; rw [HP.out, HZ.out]
                rw [hh]
                simp
              · unfold rn; rw [HB.out.2]; simp [hbc]
            · rw [if_neg hbc]
              have HB := Lib.hid hb
              have HP := Lib.hid hP
              have HZ := Lib.hid hZ
              clear hb hV hP hZ
              go_wp2_with (go_at_call 266; refine Calls.mono (show Calls _ _ _ _ _ from kd) ?_; rintro e w' ⟨rfl, rfl⟩)
              go_roundw
              case measure => simp [RowKit.intOf]
              case rel =>
              refine ⟨.inr (.inr (.inr (.inr (⟨rfl, ?_, ?_⟩)))), trivial⟩
              · have hh : rv a b c d = P * 64 + Z := by unfold rv; rw [HP.out, HZ.out]
                rw [hh]
                simp
              · unfold rn; rw [HB.out.2]; simp [hbc]
        · have hrv : rv a b c d < 16777216 := by unfold rv; omega
          have hrn : rn c d = 1 ∨ rn c d = 2 ∨ rn c d = 3 := by unfold rn; split; exact .inl rfl; split; exact .inr (.inl rfl); exact .inr (.inr rfl)
          have hch : ∀ t, rchunk (a :: b :: c :: d :: t) = (rthree a b c d).take (rn c d) := fun _ => rfl
          unfold rthree at hch
          obtain ⟨X, hX⟩ : ∃ X, rv a b c d = X := ⟨_, rfl⟩
          obtain ⟨M, hM⟩ : ∃ M, rn c d = M := ⟨_, rfl⟩
          simp only [hX, hM] at hch
          rw [hX] at hrv ⊢
          rw [hM] at hrn ⊢
          obtain ⟨y0, h0⟩ : ∃ y, UInt8.ofNat (X / 65536) = y := ⟨_, rfl⟩
          obtain ⟨y1, h1⟩ : ∃ y, UInt8.ofNat (X / 256 % 256) = y := ⟨_, rfl⟩
          obtain ⟨y2, h2⟩ : ∃ y, UInt8.ofNat (X % 256) = y := ⟨_, rfl⟩
          have c0 : (X : Int) / 65536 = (y0.toNat : Int) := by rw [← h0, UInt8.toNat_ofNat']; omega
          have c1 : (X : Int) / 256 % 256 = (y1.toNat : Int) := by rw [← h1, UInt8.toNat_ofNat']; omega
          have c2 : (X : Int) % 256 = (y2.toNat : Int) := by rw [← h2, UInt8.toNat_ofNat']; omega
          have l0 := UInt8.toNat_lt y0
          have l1 := UInt8.toNat_lt y1
          have l2 := UInt8.toNat_lt y2
          simp only [h0, h1, h2] at hch
          obtain ⟨i0, hi0, hz0, hz1, hz2⟩ := info_parts Tryz.infoByte
          clear hX hM h0 h1 h2
          have hans := HS.out
          rw [hch] at hans
          clear hch HS
          rcases hrn with rfl | rfl | rfl
          · have HS2 := Lib.hid hans
            clear hans
            have hcells : ∀ j u, ([.int .u8 (y0.toNat : Int)] : List Value)[j]? = some u → (wr.alloc (.cells #[.int .u8 (y0.toNat : Int), .int .u8 (y1.toNat : Int), .int .u8 (y2.toNat : Int)] 5)).cell? ((⟨wr.heap.size, 0, none⟩ : Addr).add j) = some u := by
              intro j u hj
              refine cells_new wr [.int .u8 (y0.toNat : Int), .int .u8 (y1.toNat : Int), .int .u8 (y2.toNat : Int)] 5 j u ?_
              match j, hj with
              | 0, hj => exact hj
              | j + 1, hj => simp at hj
            have HC := Lib.hid hcells
            clear hcells
            go_wp2_with (at_builtin; refine wpList_append_own _ rfl (.tmp 53) (.tmp 56) 153 rfl w.heap.size 5 i0 (.int .u8 0) 1 1 Tryz.underlying153 hi0 hz0 hz1 hz2 rfl (by decide) u4 o.length (bV o) rfl (hown.alloc _) ⟨wr.heap.size, 0, none⟩ 1 3 [.int .u8 (y0.toNat : Int)] rfl rfl HC.out ?d2 ?d3 ?d4 ?d5 ?_)
            case d2 => intro u hu; simp at hu; rcases hu with rfl <;> rfl
            case d3 => unfold maxLen; omega
            case d4 => omega
            case d5 => simp; omega
            intro v' w3 ho3 hg3 _
            go_wp2_with fail
            go_roundw
            case rel =>
              refine ⟨k + 4, o ++ [y0], by go_num, by omega, by simp; omega, ?_, ?_, HS2.out⟩
              · rw [List.length_append, bV_append]
                exact ho3
              · exact (hbe.alloc hsz _).grown hg3 (by simp; omega) (fun b hb => (hown.lt b hb).1)
            case measure => simp [RowKit.intOf]; omega
          · have HS2 := Lib.hid hans
            clear hans
            have hcells : ∀ j u, ([.int .u8 (y0.toNat : Int), .int .u8 (y1.toNat : Int)] : List Value)[j]? = some u → (wr.alloc (.cells #[.int .u8 (y0.toNat : Int), .int .u8 (y1.toNat : Int), .int .u8 (y2.toNat : Int)] 5)).cell? ((⟨wr.heap.size, 0, none⟩ : Addr).add j) = some u := by
              intro j u hj
              refine cells_new wr [.int .u8 (y0.toNat : Int), .int .u8 (y1.toNat : Int), .int .u8 (y2.toNat : Int)] 5 j u ?_
              match j, hj with
              | 0, hj => exact hj
              | 1, hj => exact hj
              | j + 2, hj => simp at hj
            have HC := Lib.hid hcells
            clear hcells
            go_wp2_with (at_builtin; refine wpList_append_own _ rfl (.tmp 53) (.tmp 56) 153 rfl w.heap.size 5 i0 (.int .u8 0) 1 1 Tryz.underlying153 hi0 hz0 hz1 hz2 rfl (by decide) u4 o.length (bV o) rfl (hown.alloc _) ⟨wr.heap.size, 0, none⟩ 2 3 [.int .u8 (y0.toNat : Int), .int .u8 (y1.toNat : Int)] rfl rfl HC.out ?d2 ?d3 ?d4 ?d5 ?_)
            case d2 => intro u hu; simp at hu; rcases hu with rfl | rfl <;> rfl
            case d3 => unfold maxLen; omega
            case d4 => omega
            case d5 => simp; omega
            intro v' w3 ho3 hg3 _
            go_wp2_with fail
            go_roundw
            case rel =>
              refine ⟨k + 4, o ++ [y0, y1], by go_num, by omega, by simp; omega, ?_, ?_, HS2.out⟩
              · rw [List.length_append, bV_append]
                exact ho3
              · exact (hbe.alloc hsz _).grown hg3 (by simp; omega) (fun b hb => (hown.lt b hb).1)
            case measure => simp [RowKit.intOf]; omega
          · have HS2 := Lib.hid hans
            clear hans
            have hcells : ∀ j u, ([.int .u8 (y0.toNat : Int), .int .u8 (y1.toNat : Int), .int .u8 (y2.toNat : Int)] : List Value)[j]? = some u → (wr.alloc (.cells #[.int .u8 (y0.toNat : Int), .int .u8 (y1.toNat : Int), .int .u8 (y2.toNat : Int)] 5)).cell? ((⟨wr.heap.size, 0, none⟩ : Addr).add j) = some u := by
              intro j u hj
              refine cells_new wr [.int .u8 (y0.toNat : Int), .int .u8 (y1.toNat : Int), .int .u8 (y2.toNat : Int)] 5 j u ?_
              match j, hj with
              | 0, hj => exact hj
              | 1, hj => exact hj
              | 2, hj => exact hj
              | j + 3, hj => simp at hj
            have HC := Lib.hid hcells
            clear hcells
            go_wp2_with (at_builtin; refine wpList_append_own _ rfl (.tmp 53) (.tmp 56) 153 rfl w.heap.size 5 i0 (.int .u8 0) 1 1 Tryz.underlying153 hi0 hz0 hz1 hz2 rfl (by decide) u4 o.length (bV o) rfl (hown.alloc _) ⟨wr.heap.size, 0, none⟩ 3 3 [.int .u8 (y0.toNat : Int), .int .u8 (y1.toNat : Int), .int .u8 (y2.toNat : Int)] rfl rfl HC.out ?d2 ?d3 ?d4 ?d5 ?_)
            case d2 => intro u hu; simp at hu; rcases hu with rfl | rfl | rfl <;> rfl
            case d3 => unfold maxLen; omega
            case d4 => omega
            case d5 => simp; omega
            intro v' w3 ho3 hg3 _
            go_wp2_with fail
            go_roundw
            case rel =>
              refine ⟨k + 4, o ++ [y0, y1, y2], by go_num, by omega, by simp; omega, ?_, ?_, HS2.out⟩
              · rw [List.length_append, bV_append]
                exact ho3
              · exact (hbe.alloc hsz _).grown hg3 (by simp; omega) (fun b hb => (hown.lt b hb).1)
            case measure => simp [RowKit.intOf]; omega
    · have hs := HA.out
      rw [rdec_end _ (by rw [List.length_drop]; omega), List.append_nil] at hs
      subst hs
      have hcv := run_str_own (P := Tryz.prog) wr 153 9 5 w.heap.size u4 o Tryz.underlying153 Tryz.underlying5 Tryz.underlying9 hown
      have c3 := RBase64_any o wr (by omega)
      have hu := HU.out
      obtain ⟨E, hEe⟩ : ∃ E, b64 o = E := ⟨_, rfl⟩
      rw [hEe] at c3 hu
      clear hEe HA HU
      by_cases hes : E = s
      · rw [if_pos hes] at hu
        subst hu hes
        go_wp2_with (go_at_call 232; refine c3.mono ?_; rintro e w2 ⟨rfl, hb2⟩; have hcv2 := run_str_own (P := Tryz.prog) w2 153 9 5 w.heap.size u4 o Tryz.underlying153 Tryz.underlying5 Tryz.underlying9 (own_below hown hb2))
        go_ret2
        exact ⟨rfl, below_ext hbe hb2⟩
      · rw [if_neg hes] at hu
        subst hu
        have hbq : (E == s) = false := beq_eq_false_iff_ne.2 hes
        go_wp2_with (go_at_call 232; refine c3.mono ?_; rintro e w2 ⟨rfl, hb2⟩; have hcv2 := run_str_own (P := Tryz.prog) w2 153 9 5 w.heap.size u4 o Tryz.underlying153 Tryz.underlying5 Tryz.underlying9 (own_below hown hb2))
        go_ret2
        exact ⟨rfl, below_ext hbe hb2⟩
structure KG (G : Nat → Prop) (w w' : World) : Prop where
  os : w'.os = w.os
  tape : w'.tape = w.tape
  output : w'.output = w.output
  size : w.heap.size ≤ w'.heap.size
  block : ∀ k, k < w.heap.size → ¬ G k → w'.heap[k]? = w.heap[k]?
theorem KG.refl (G : Nat → Prop) (w : World) : KG G w w := ⟨rfl, rfl, rfl, Nat.le_refl _, fun _ _ _ => rfl⟩
theorem KG.trans {G : Nat → Prop} {a b c : World} (h : KG G a b) (k : KG G b c) : KG G a c :=
  ⟨k.os.trans h.os, k.tape.trans h.tape, k.output.trans h.output, Nat.le_trans h.size k.size, fun i hi hn => (k.block i (Nat.lt_of_lt_of_le hi h.size) hn).trans (h.block i hi hn)⟩
theorem KG.mono {G G' : Nat → Prop} {w w' : World} (h : KG G w w') (hG : ∀ k, k < w.heap.size → G k → G' k) : KG G' w w' :=
  ⟨h.os, h.tape, h.output, h.size, fun k hk hn => h.block k hk (fun hg => hn (hG k hk hg))⟩
theorem KG.of_below {G : Nat → Prop} {w w' : World} (h : Below w.heap.size w w') : KG G w w' := ⟨h.os, h.tape, h.output, h.size, fun k hk _ => h.block k hk⟩
theorem KG.ext {G : Nat → Prop} {a b c : World} (h : KG G a b) (k : Below b.heap.size b c) : KG G a c := h.trans (KG.of_below k)
theorem KG.below {G : Nat → Prop} {w w' : World} {B : Nat} (h : KG G w w') (hG : ∀ k, G k → B ≤ k) (hB : B ≤ w.heap.size) : Below B w w' :=
  ⟨h.os, h.tape, h.output, h.size, fun k hk => h.block k (by omega) (fun hg => by have := hG k hg; omega)⟩
theorem KG.grown {G : Nat → Prop} {w wr w' : World} {row : Option Nat} (h : KG G w wr) (hg : wr.grownBy w' row) (hr : ∀ k, row = some k → G k ∨ w.heap.size ≤ k) : KG G w w' :=
  ⟨hg.os.trans h.os, hg.tape.trans h.tape, hg.output.trans h.output, Nat.le_trans h.size hg.size, fun k hk hn =>
    (hg.block k (Nat.lt_of_lt_of_le hk h.size) (fun e => by rcases hr k e.symm with h' | h' <;> first | exact hn h' | omega)).trans (h.block k hk hn)⟩
theorem KG.set {G : Nat → Prop} {w wr : World} (h : KG G w wr) (p : Addr) (v : Value) (hp : G p.block ∨ w.heap.size ≤ p.block) : KG G w (wr.setCell p v) :=
  ⟨h.os, h.tape, h.output, by have := h.size; simpa [World.setCell] using this, fun k hk hn =>
    (Below.heap_setCell wr p v k (fun e => by subst e; rcases hp with h' | h' <;> first | exact hn h' | omega)).trans (h.block k hk hn)⟩
theorem KG.alloc {G : Nat → Prop} {w wr : World} (h : KG G w wr) (o : Obj) : KG G w (wr.alloc o) := h.ext ((Below.refl _ _).alloc (Nat.le_refl _) o)
theorem KG.drew {G : Nat → Prop} {w wr : World} (h : KG G w wr) : KG G w wr.drew := ⟨h.os, h.tape, h.output, h.size, h.block⟩
theorem KG.drewN {G : Nat → Prop} {w wr : World} (h : KG G w wr) (n : Nat) : KG G w (wr.drewN n) := ⟨h.os, h.tape, h.output, h.size, h.block⟩
theorem KG.cell {G : Nat → Prop} {w w' : World} (h : KG G w w') {p : Addr} (hp : p.block < w.heap.size) (hn : ¬ G p.block) : w'.cell? p = w.cell? p := World.cell?_of_block (w := w) (h.block _ hp hn)
theorem KG.own {G : Nat → Prop} {w w' : World} (h : KG G w w') {B e size n : Nat} {v : Value} {xs : List Value} (ho : w.ownsRow B e size v n xs) (hn : ∀ k, v.ownBlock = some k → ¬ G k) : w'.ownsRow B e size v n xs := by
  refine ⟨ho.1, ?_⟩
  rcases ho.2 with hz | ⟨g, cap, cur, rfl, hb, hg, r⟩
  · exact .inl hz
  · exact .inr ⟨g, cap, cur, rfl, hb, (h.block g (Array.getElem?_eq_some_iff.1 hg).1 (hn g rfl)).trans hg, r⟩
def Ty (w : World) (k : Nat) (t : TypeId) : Prop := ∃ cs fr, w.heap[k]? = some (.cells cs t fr)
theorem Ty.eq {w : World} {k : Nat} {t u : TypeId} (h : Ty w k t) (h' : Ty w k u) : t = u := by
  obtain ⟨_, _, h⟩ := h
  obtain ⟨_, _, h'⟩ := h'
  rw [h] at h'
  cases h'
  rfl
theorem own_ty {w : World} {B e size n : Nat} {v : Value} {xs : List Value} (h : w.ownsRow B e size v n xs) {k : Nat} (hk : v.ownBlock = some k) : Ty w k e := by
  rcases h.2 with ⟨rfl, _⟩ | ⟨g, cap, cur, rfl, _, hg, _⟩
  · cases hk
  · cases hk; exact ⟨_, _, hg⟩
theorem ownBelow {w w' : World} {B e size n : Nat} {v : Value} {xs : List Value} (h : w.ownsRow B e size v n xs) (hb : Below w.heap.size w w') : w'.ownsRow B e size v n xs :=
  (KG.of_below (G := fun _ => False) hb).own h (fun _ _ h => h)
def Sep (vs : List Value) : Prop := ∀ (i j : Nat) (u v : Value) (k : Nat), i ≠ j → vs[i]? = some u → vs[j]? = some v → u.ownBlock = some k → v.ownBlock ≠ some k
theorem Sep.nil : Sep [] := fun i j u v k _ h => by simp at h
theorem Sep.snoc {vs : List Value} {v : Value} (h : Sep vs) (hv : ∀ u ∈ vs, ∀ k, u.ownBlock = some k → v.ownBlock ≠ some k) : Sep (vs ++ [v]) := by
  intro i j x y k hne hi hj hx hy
  rcases Nat.lt_or_ge i vs.length with h1 | h1
  · rw [List.getElem?_append_left h1] at hi
    rcases Nat.lt_or_ge j vs.length with h2 | h2
    · rw [List.getElem?_append_left h2] at hj
      exact h i j x y k hne hi hj hx hy
    · rw [List.getElem?_append_right h2] at hj
      have : y = v := by
        cases hz : j - vs.length with
        | zero => rw [hz] at hj; simpa using hj.symm
        | succ n => rw [hz] at hj; simp at hj
      subst this
      exact hv x (List.mem_of_getElem? hi) k hx hy
  · rw [List.getElem?_append_right h1] at hi
    have hxv : x = v := by
      cases hz : i - vs.length with
      | zero => rw [hz] at hi; simpa using hi.symm
      | succ n => rw [hz] at hi; simp at hi
    have hin : i = vs.length := by
      have := (List.getElem?_eq_some_iff.1 hi).1
      simp at this
      omega
    subst hxv
    have h2 : j < vs.length := by
      have := (List.getElem?_eq_some_iff.1 hj).1
      simp at this
      omega
    rw [List.getElem?_append_left h2] at hj
    exact hv y (List.mem_of_getElem? hj) k hy hx
theorem run_append_both {P : Program} (w : World) (base : Nat) (t ty e : TypeId) (i : TypeInfo) (z : Value) (size bytes : Nat) (ht : P.underlying t = some (.slice e)) (hi : P.info? e = some i) (hz : i.zero = some z)
    (hsize : i.size = size) (hby : i.bytes = bytes) (hzs : z.cells.size = size) (hsz : 0 < size)
    (v : Value) (n : Nat) (xs : List Value) (hown : w.ownsRow base e size v n xs)
    (a : Addr) (m c : Nat) (news : List Value) (hl : news.length = m * size) (hnews : ∀ j u, news[j]? = some u → w.cell? (a.add j) = some u) (h1 : ∀ u ∈ news, u.oneCell' = true)
    (h63 : n + m ≤ maxLen) (hbytes : (n + m) * bytes ≤ 140737488355328) (hbase : base ≤ w.heap.size) :
    ∃ v' w', (Builtin.append_ #[t, t] ty #[v, .slice (some a) m c]).run P w = .ok v' w' ∧ w'.ownsRow base e size v' (n + m) (xs ++ news) ∧ w.grownBy w' v.ownBlock ∧
      (v'.ownBlock = v.ownBlock ∨ v'.ownBlock = some w.heap.size) ∧ w'.ownsRow base e size v n xs := by
  obtain ⟨v', w', hr, h2, h3, _, h5⟩ := run_append_own_at (P := P) w base t ty e i z size bytes ht hi hz hsize hby hzs hsz v n xs hown a m c news hl hnews h1 h63 hbytes hbase
  refine ⟨v', w', hr, h2, h3, h5, ?_⟩
  subst hsize
  subst hby
  have hsmall : n + m ≤ 9223372036854775807 := by simp only [maxLen] at h63; omega
  refine ⟨hown.1, ?_⟩
  rcases hown.2 with ⟨rfl, rfl⟩ | ⟨g, cap, cur, rfl, hbg, hg, hnc, hcm, hcs, htake⟩
  · exact .inl ⟨rfl, rfl⟩
  · by_cases hroom : n + m ≤ cap
    · have hfit : n * i.size + news.length ≤ cur.size := by rw [hl, hcs, ← Nat.add_mul]; exact Nat.mul_le_mul_right _ hroom
      have hr2 := run_append_room (P := P) w t ty e i ht hi g n cap cur hg a m c news hl hnews h1 hroom hfit
      rw [hr] at hr2
      cases hr2
      refine .inr ⟨g, cap, _, rfl, hbg, setRow_heap w g cur _ e _ hg, hnc, hcm, ?_, ?_⟩
      · simp only [List.size_toArray, List.length_append, List.length_take, List.length_drop, Array.length_toList]
        omega
      · rw [htake, List.append_assoc, ← hown.1]
        exact List.take_left
    · have holds : ∀ j u, xs[j]? = some u → w.cell? ((⟨g, 0, none⟩ : Addr).add j) = some u := hown.cells (g := g) rfl
      have hr2 := run_append_grow (P := P) w t ty e i z ht hi hz ⟨g, 0, none⟩ n cap xs hown.1 holds a m c news hl hnews (by omega) (by omega) (growslice_fits (by omega) hbytes)
      rw [hr] at hr2
      cases hr2
      exact .inr ⟨g, cap, cur, rfl, hbg, (Lib.alloc_old w.drew _ g (Array.getElem?_eq_some_iff.1 hg).1).trans hg, hnc, hcm, hcs, htake⟩
theorem wpList_append_both {P : Program} {w : World} {ops : Array Oper} {rest : List Oper} {o : Oper} {a : Act} {Q : Exit → Act → World → Prop} (hgd : o.guard = none) (s x : Operand) (t : TypeId)
    (ho : o.op = .call { callee := .builtin .append, args := #[s, x], argTypes := #[t, t] })
    (base : Nat) (e : TypeId) (i : TypeInfo) (z : Value) (size bytes : Nat) (ht : P.underlying t = some (.slice e)) (hi : P.info? e = some i) (hz : i.zero = some z)
    (hsize : i.size = size) (hby : i.bytes = bytes) (hzs : z.cells.size = size) (hsz : 0 < size)
    (v : Value) (n : Nat) (xs : List Value) (hs : a.eval s = v) (hown : w.ownsRow base e size v n xs)
    (ad : Addr) (m c : Nat) (news : List Value) (hx : a.eval x = .slice (some ad) m c) (hl : news.length = m * size) (hnews : ∀ j u, news[j]? = some u → w.cell? (ad.add j) = some u) (h1 : ∀ u ∈ news, u.oneCell' = true)
    (h63 : n + m ≤ maxLen) (hbytes : (n + m) * bytes ≤ 140737488355328) (hbase : base ≤ w.heap.size)
    (h : ∀ v' w', w'.ownsRow base e size v' (n + m) (xs ++ news) → w.grownBy w' v.ownBlock → (v'.ownBlock = v.ownBlock ∨ v'.ownBlock = some w.heap.size) → w'.ownsRow base e size v n xs → wpList P ops Q rest (a.put o.dst v') w') :
    wpList P ops Q (o :: rest) a w := by
  refine wpList_plain hgd fun K hK => ?_
  obtain ⟨v', w', hr, h2, h3, h4, h5⟩ := run_append_both (P := P) w base t o.type e i z size bytes ht hi hz hsize hby hzs hsz v n xs hown ad m c news hl hnews h1 h63 hbytes hbase
  unfold Oper.wp execOp
  simp only [ho, resolve, invoke, builtin, Sem.run_bind, Sem.run_pure, Result.andThen_ok, List.map_toArray, List.map_cons, List.map_nil, hs, hx, hr]
  exact hK _ _ (h v' w' h2 h3 h4 h5)
def nameL (i k : Nat) : List UInt8 := [109, UInt8.ofNat (65 + i % 26), UInt8.ofNat (65 + i / 26 % 26), UInt8.ofNat (48 + k % 10), UInt8.ofNat (48 + k / 10 % 10), UInt8.ofNat (48 + k / 100 % 10)]
def bkF (b : Nat → Value) : Array Value := ((List.range 36).map b).toArray
def BF (w : World) (p : Nat) (b : Nat → Value) : Prop := w.heap[p]? = some (.cells (bkF b) 43 (0, 0))
theorem BF.lt {w : World} {p : Nat} {b : Nat → Value} (h : BF w p b) : p < w.heap.size := (Array.getElem?_eq_some_iff.1 h).1
theorem BF.ty {w : World} {p : Nat} {b : Nat → Value} (h : BF w p b) : Ty w p 43 := ⟨_, _, h⟩
theorem BF.below {w w' : World} {p : Nat} {b : Nat → Value} (h : BF w p b) (hb : Below w.heap.size w w') : BF w' p b := (hb.block p h.lt).trans h
theorem BF.kg {G : Nat → Prop} {w w' : World} {p : Nat} {b : Nat → Value} (h : BF w p b) (hk : KG G w w') (hn : ¬ G p) : BF w' p b := (hk.block p h.lt hn).trans h
theorem BF.cell {w : World} {p : Nat} {b : Nat → Value} (h : BF w p b) (i : Nat) (hi : i < 36) : w.cell? ⟨p, i, none⟩ = some (b i) := by
  rw [Lib.cell_of_heap h]
  simp [bkF, hi]
theorem BF.frozen {w : World} {p : Nat} {b : Nat → Value} (h : BF w p b) (i : Nat) : w.frozen? ⟨p, i, none⟩ = false := Lib.frozen_of_heap h i
def upd (b : Nat → Value) (i : Nat) (x : Value) : Nat → Value := fun j => if j = i then x else b j
theorem upd_same (b : Nat → Value) (i : Nat) (x : Value) : upd b i x i = x := if_pos rfl
theorem upd_ne (b : Nat → Value) {i j : Nat} (x : Value) (h : j ≠ i) : upd b i x j = b j := if_neg h
theorem BF.set {w : World} {p : Nat} {b : Nat → Value} (h : BF w p b) (i : Nat) (x : Value) : BF (w.setCell ⟨p, i, none⟩ x) p (upd b i x) := by
  have h1 := heap_setCell_same w p i _ _ x h
  have e : (bkF b).setIfInBounds i x = bkF (upd b i x) := by
    apply Array.ext_getElem?
    intro j
    simp only [Array.getElem?_setIfInBounds, bkF, List.getElem?_toArray, List.getElem?_map, List.size_toArray, List.length_map, List.length_range]
    by_cases hj : i = j
    · subst hj
      rw [if_pos rfl]
      by_cases hi : i < 36
      · rw [if_pos hi, List.getElem?_range hi, Option.map_some, upd_same]
      · rw [if_neg hi, List.getElem?_eq_none (by simpa using hi)]; rfl
    · rw [if_neg hj]
      cases hr : (List.range 36)[j]? with
      | none => rfl
      | some k =>
        have : k = j := by
          have := (List.getElem?_eq_some_iff.1 hr).2
          simpa using this.symm
        subst this
        rw [Option.map_some, Option.map_some, upd_ne b x (fun e => hj e.symm)]
  rw [e] at h1
  exact h1
theorem BF.grown {w w' : World} {p B e size n : Nat} {b : Nat → Value} {l : Value} {xs : List Value} (h : BF w p b) (hl : w.ownsRow B e size l n xs) (he : e ≠ 43) (hg : w.grownBy w' l.ownBlock) : BF w' p b :=
  (hg.block p h.lt (fun e' => he ((own_ty hl e'.symm).eq h.ty))).trans h
theorem bf_new (w : World) : BF (w.alloc (.cells (bkF fun _ => .slice none 0 0) 43)) w.heap.size (fun _ => .slice none 0 0) := by
  show (w.heap.push _)[w.heap.size]? = _
  simp
theorem gl_of {w : World} {B e size n : Nat} {v : Value} {xs : List Value} (h : w.ownsRow B e size v n xs) : ∃ a c, v = .slice a n c := by
  rcases h.2 with ⟨h1, h2⟩ | ⟨g, c, _, h1, _⟩
  · exact ⟨none, 0, by rw [h1, h2]⟩
  · exact ⟨_, c, h1⟩
theorem gow_at {w : World} {B e n i : Nat} {v u : Value} {xs : List Value} (h : w.ownsRow B e 1 v n xs) (hi : xs[i]? = some u) : ∃ g cap, v = .slice (some ⟨g, 0, none⟩) n cap ∧ w.cell? ⟨g, i, none⟩ = some u := by
  rcases id h.2 with ⟨_, hz⟩ | ⟨g, cap, cur, rfl, _⟩
  · have := (List.getElem?_eq_some_iff.1 hi).1
    rw [h.1, hz] at this
    simp at this
  · have c := h.cells (g := g) rfl i u hi
    rw [Addr.add_lit, Nat.zero_add] at c
    exact ⟨g, cap, rfl, c⟩
theorem gow_one {w : World} {B e size n g i : Nat} {v x : Value} {xs : List Value} (h : w.ownsRow B e size v n xs) (hg : v.ownBlock ≠ some g) : (w.setCell ⟨g, i, none⟩ x).ownsRow B e size v n xs := by
  have hk : KG (fun k => k = g) w (w.setCell ⟨g, i, none⟩ x) := (KG.refl (fun k => k = g) w).set ⟨g, i, none⟩ x (.inl rfl)
  exact hk.own h (fun k hk e => hg (e ▸ hk))
theorem gow_setp {w : World} {p B e size n i : Nat} {b : Nat → Value} {l x : Value} {xs : List Value} (h : BF w p b) (hl : w.ownsRow B e size l n xs) (he : e ≠ 43) : (w.setCell ⟨p, i, none⟩ x).ownsRow B e size l n xs :=
  gow_one hl (fun e' => he ((own_ty hl e').eq h.ty))
theorem gow_far {w w' : World} {B B' e e' size size' n n' : Nat} {l o : Value} {xs ys : List Value} (hl : w.ownsRow B e size l n xs) (ho : w.ownsRow B' e' size' o n' ys) (he : e ≠ e') (hg : w.grownBy w' l.ownBlock) : w'.ownsRow B' e' size' o n' ys := by
  refine ho.kept hg ?_
  cases hk : o.ownBlock with
  | none => exact .inl rfl
  | some b => exact .inr (fun h => he ((own_ty hl h.symm).eq (own_ty ho hk)))
theorem gell_one (w : World) (v : Value) (t : TypeId) : ∀ j u, [v][j]? = some u → (w.alloc (.cells #[v] t)).cell? ((⟨w.heap.size, 0, none⟩ : Addr).add j) = some u := by
  intro j u hj
  have h := (List.getElem?_eq_some_iff.1 hj).1
  simp at h
  subst h
  simp at hj
  subst hj
  rw [Addr.add_lit, Nat.zero_add, Lib.cell_of_heap (show (w.alloc (.cells #[v] t)).heap[w.heap.size]? = some (.cells #[v] t (0, 0)) by show (w.heap.push _)[w.heap.size]? = _; simp)]
  rfl
/- marks -/
def mks (mk : Nat → List Value) (fr n : Nat) : List Value := (List.range n).flatMap fun j => mk (fr + j)
theorem mks_succ (mk : Nat → List Value) (fr n : Nat) : mks mk fr (n + 1) = mks mk fr n ++ mk (fr + n) := by simp [mks, List.range_succ]
theorem mks_length {mk : Nat → List Value} {s : Nat} (h : ∀ k, (mk k).length = s) (fr : Nat) : ∀ n, (mks mk fr n).length = n * s
  | 0 => by simp [mks]
  | n + 1 => by rw [mks_succ, List.length_append, mks_length h fr n, h, Nat.succ_mul]
theorem mks_add (mk : Nat → List Value) (n : Nat) : ∀ m, mks mk 0 n ++ mks mk n m = mks mk 0 (n + m)
  | 0 => by simp [mks]
  | m + 1 => by rw [mks_succ, ← List.append_assoc, mks_add mk n m, ← Nat.add_assoc, mks_succ, Nat.zero_add]
theorem mks_take {mk : Nat → List Value} {s : Nat} (h : ∀ k, (mk k).length = s) {m n : Nat} (hm : m ≤ n) : mks mk 0 m = (mks mk 0 n).take (m * s) := by
  obtain ⟨r, rfl⟩ := Nat.le.dest hm
  rw [← mks_add, List.take_left' (mks_length h 0 m)]
theorem mks_one {mk : Nat → List Value} (h : ∀ k, ∀ u ∈ mk k, u.oneCell' = true) (fr n : Nat) : ∀ u ∈ mks mk fr n, u.oneCell' = true := by
  intro u hu
  obtain ⟨j, _, h2⟩ := List.mem_flatMap.1 hu
  exact h _ u h2
theorem mks_get {mk : Nat → List Value} {s : Nat} (h : ∀ k, (mk k).length = s) (fr : Nat) : ∀ (n j o : Nat), j < n → o < s → (mks mk fr n)[j * s + o]? = (mk (fr + j))[o]?
  | 0, j, o, hj, _ => by omega
  | n + 1, j, o, hj, ho => by
    rw [mks_succ]
    by_cases hjn : j < n
    · have h1 : j * s + o < (mks mk fr n).length := by
        rw [mks_length h]
        have : (j + 1) * s ≤ n * s := Nat.mul_le_mul_right s (by omega)
        rw [Nat.succ_mul] at this
        omega
      rw [List.getElem?_append_left h1, mks_get h fr n j o hjn ho]
    · obtain rfl : j = n := by omega
      rw [List.getElem?_append_right (by rw [mks_length h]; omega), mks_length h, Nat.add_sub_cancel_left]
def setAll (w : World) (g o : Nat) : List Value → World
  | [] => w
  | x :: xs => setAll (w.setCell ⟨g, o, none⟩ x) g (o + 1) xs
theorem KG.setAll {G : Nat → Prop} {w : World} (g : Nat) : ∀ (xs : List Value) (o : Nat) (wr : World), KG G w wr → (G g ∨ w.heap.size ≤ g) → KG G w (setAll wr g o xs)
  | [], _, _, h, _ => h
  | x :: xs, o, _, h, hg => KG.setAll g xs (o + 1) _ (h.set ⟨g, o, none⟩ x hg) hg
theorem own_setAll {B e size n g cap : Nat} : ∀ (news pre old post : List Value) (w : World), old.length = news.length → w.ownsRow B e size (.slice (some ⟨g, 0, none⟩) n cap) n (pre ++ old ++ post) →
    (setAll w g pre.length news).ownsRow B e size (.slice (some ⟨g, 0, none⟩) n cap) n (pre ++ news ++ post)
  | [], pre, old, post, w, hl, h => by
    have : old = [] := List.eq_nil_of_length_eq_zero hl
    subst this
    exact h
  | x :: news, pre, [], post, w, hl, h => by simp at hl
  | x :: news, pre, y :: old, post, w, hl, h => by
    obtain ⟨h1, _⟩ := h.stored pre.length x
    have e : (pre ++ y :: old ++ post).set pre.length x = (pre ++ [x]) ++ old ++ post := by simp
    rw [e] at h1
    have h2 := own_setAll news (pre ++ [x]) old post _ (by simpa using hl) h1
    rw [List.length_append, List.length_singleton] at h2
    have e2 : pre ++ [x] ++ news ++ post = pre ++ x :: news ++ post := by simp
    rw [e2] at h2
    exact h2
theorem own_setAll_far {B e size n g : Nat} {v : Value} {xs : List Value} : ∀ (news : List Value) (o : Nat) (w : World), w.ownsRow B e size v n xs → v.ownBlock ≠ some g → (setAll w g o news).ownsRow B e size v n xs
  | [], _, _, h, _ => h
  | _ :: news, o, _, h, hg => own_setAll_far news (o + 1) _ (gow_one h hg) hg
def Blks (vs : List Value) (k : Nat) : Prop := ∃ v ∈ vs, v.ownBlock = some k
def MkI (e : TypeId) (s : Nat) (mk : Nat → Nat → List Value) (B : Nat) (w : World) (vs : List Value) (ns : List Nat) (k : Nat) : Prop :=
  ∀ (i m : Nat), ns[i]? = some m → ∃ v xs, vs[i]? = some v ∧ w.ownsRow B e s v m xs ∧ (i < k → xs = mks (mk i) 0 m)
theorem MkI.kg {e : TypeId} {s B k : Nat} {mk : Nat → Nat → List Value} {G : Nat → Prop} {w w' : World} {vs : List Value} {ns : List Nat} (h : MkI e s mk B w vs ns k) (hk : KG G w w') (hn : ∀ b, Blks vs b → ¬ G b) : MkI e s mk B w' vs ns k := fun i m hi => by
  obtain ⟨v, xs, h1, h2, h3⟩ := h i m hi
  exact ⟨v, xs, h1, hk.own h2 (fun b hb => hn b ⟨v, List.mem_of_getElem? h1, hb⟩), h3⟩
theorem MkI.below {e : TypeId} {s B k : Nat} {mk : Nat → Nat → List Value} {w w' : World} {vs : List Value} {ns : List Nat} (h : MkI e s mk B w vs ns k) (hb : Below w.heap.size w w') : MkI e s mk B w' vs ns k :=
  h.kg (KG.of_below (G := fun _ => False) hb) (fun _ _ h => h)
theorem MkI.ty {e : TypeId} {s B k n : Nat} {mk : Nat → Nat → List Value} {w : World} {vs : List Value} {ns : List Nat} (h : MkI e s mk B w vs ns k) (hn : ns.length = n) (hv : vs.length = n) : ∀ b, Blks vs b → Ty w b e ∧ b < w.heap.size ∧ B ≤ b := by
  rintro b ⟨v, hm, hb⟩
  obtain ⟨i, hi⟩ := List.getElem?_of_mem hm
  have hil := (List.getElem?_eq_some_iff.1 hi).1
  obtain ⟨v', xs, h1, h2, _⟩ := h i ns[i] (List.getElem?_eq_getElem (by omega))
  rw [hi] at h1
  cases h1
  exact ⟨own_ty h2 hb, (h2.lt b hb).2, (h2.lt b hb).1⟩
def MkJ (e : TypeId) (s : Nat) (mk : Nat → Nat → List Value) (w : World) (B : Nat) (vs : List Value) (ns : List Nat) (k : Nat) (B1 : Nat) (mv : Value) (m : Nat) (q : Value) (wr : World) : Prop :=
  ∃ j : Nat, j ≤ m ∧ q = .int .i64 (j : Int) ∧ KG (Blks vs) w wr ∧ wr.ownsRow B1 e s mv m (mks (mk k) 0 m) ∧ MkI e s mk B wr vs ns k ∧ ∃ v post, vs[k]? = some v ∧ wr.ownsRow B e s v m (mks (mk k) 0 j ++ post)
theorem mkj_next {e : TypeId} {s B k B1 m j g cap : Nat} {mk : Nat → Nat → List Value} {w wd : World} {vs : List Value} {ns : List Nat} {mv : Value} {post : List Value} (hl : ∀ i k, (mk i k).length = s) (hs : Sep vs) (hmk : ns[k]? = some m) (hvk : vs[k]? = some (.slice (some ⟨g, 0, none⟩) m cap)) (hgm : mv.ownBlock ≠ some g) (hj : j < m)
    (hkg : KG (Blks vs) w wd) (hm : wd.ownsRow B1 e s mv m (mks (mk k) 0 m)) (hi : MkI e s mk B wd vs ns k) (ho : wd.ownsRow B e s (.slice (some ⟨g, 0, none⟩) m cap) m (mks (mk k) 0 j ++ post)) :
    MkJ e s mk w B vs ns k B1 mv m (.int .i64 ((j + 1 : Nat) : Int)) (setAll wd g (j * s) (mk k j)) := by
  have hbk : Blks vs g := ⟨_, List.mem_of_getElem? hvk, rfl⟩
  have hpl : (mks (mk k) 0 j).length = j * s := mks_length (hl k) 0 j
  have hpost : s ≤ post.length := by
    have h1 := ho.1
    rw [List.length_append, hpl] at h1
    have h2 : (j + 1) * s ≤ m * s := Nat.mul_le_mul_right s hj
    rw [Nat.succ_mul] at h2
    omega
  have e1 : post = post.take s ++ post.drop s := (List.take_append_drop s post).symm
  have ho' := ho
  rw [e1, ← List.append_assoc] at ho'
  have h3 := own_setAll (mk k j) _ (post.take s) (post.drop s) wd (by rw [hl, List.length_take]; omega) ho'
  rw [hpl] at h3
  have e2 : mks (mk k) 0 j ++ mk k j = mks (mk k) 0 (j + 1) := by rw [mks_succ, Nat.zero_add]
  rw [e2] at h3
  refine ⟨j + 1, hj, rfl, KG.setAll g _ _ _ hkg (.inl hbk), own_setAll_far _ _ _ hm hgm, ?_, _, _, hvk, h3⟩
  intro i m' hi'
  obtain ⟨v, xs, h1, h2, h4⟩ := hi i m' hi'
  by_cases hik : i = k
  · subst hik
    rw [hmk] at hi'
    cases hi'
    rw [hvk] at h1
    cases h1
    exact ⟨_, _, hvk, h3, fun h => by omega⟩
  · exact ⟨v, xs, h1, own_setAll_far _ _ _ h2 (fun e => hs i k v _ g hik h1 hvk e rfl), h4⟩
theorem mkj_done {e : TypeId} {s B k m : Nat} {mk : Nat → Nat → List Value} {wr : World} {vs : List Value} {ns : List Nat} {v : Value} {post : List Value} (hl : ∀ i k, (mk i k).length = s) (hmk : ns[k]? = some m)
    (hi : MkI e s mk B wr vs ns k) (hvk : vs[k]? = some v) (ho : wr.ownsRow B e s v m (mks (mk k) 0 m ++ post)) : MkI e s mk B wr vs ns (k + 1) := by
  have hp : post = [] := by
    have h1 := ho.1
    rw [List.length_append, mks_length (hl k)] at h1
    exact List.eq_nil_of_length_eq_zero (by omega)
  subst hp
  rw [List.append_nil] at ho
  intro i m' hi'
  by_cases hik : i = k
  · subst hik
    rw [hmk] at hi'
    cases hi'
    exact ⟨v, _, hvk, ho, fun _ => rfl⟩
  · obtain ⟨v, xs, h1, h2, h4⟩ := hi i m' hi'
    exact ⟨v, xs, h1, h2, fun h => h4 (by omega)⟩
theorem gow_prefix {w w' : World} {B e size m n : Nat} {v l : Value} {ys xs : List Value} (hv : w.ownsRow B e size v m ys) (hl : w.ownsRow B e size l n xs) (hb : l.ownBlock = v.ownBlock) (hp : ys = xs.take (m * size)) (hmn : m ≤ n) (hl' : w'.ownsRow B e size l n xs) (hsz : 0 < size) : w'.ownsRow B e size v m ys := by
  refine ⟨hv.1, ?_⟩
  rcases hv.2 with hz | ⟨g, cap, cur, rfl, hB, hg, hmc, hcm, hcs, ht⟩
  · exact .inl hz
  · right
    rcases id hl.2 with ⟨rfl, _⟩ | ⟨g2, cap2, cur2, rfl, _, hg2, _, _, hcs2, _⟩
    · cases hb
    · cases hb
      rw [hg] at hg2
      cases hg2
      have hcc : cap = cap2 := Nat.eq_of_mul_eq_mul_right hsz (hcs.symm.trans hcs2)
      subst hcc
      rcases id hl'.2 with ⟨h0, _⟩ | ⟨g3, cap3, cur3, h3, hB3, hg3, _, _, hcs3, ht3⟩
      · cases h0
      · cases h3
        refine ⟨_, _, cur3, rfl, hB3, hg3, hmc, hcm, hcs3, ?_⟩
        rw [hp, ← ht3, List.take_take, Nat.min_eq_left (Nat.mul_le_mul_right _ hmn)]
theorem grw_step {wo w4 w7 : World} {B e size m n : Nat} {vk l v' : Value} {ys xs : List Value} (hkg : KG (fun b => vk.ownBlock = some b) wo w4) (hv : w4.ownsRow B e size vk m ys) (hl : w4.ownsRow B e size l n xs) (hlb : l.ownBlock = vk.ownBlock ∨ ∀ b, l.ownBlock = some b → wo.heap.size ≤ b)
    (hvo : ∀ b, vk.ownBlock = some b → b < wo.heap.size) (hp : ys = xs.take (m * size)) (hmn : m ≤ n) (hsz : 0 < size) (hg : w4.grownBy w7 l.ownBlock) (hat : v'.ownBlock = l.ownBlock ∨ v'.ownBlock = some w4.heap.size) (hl7 : w7.ownsRow B e size l n xs) :
    KG (fun b => vk.ownBlock = some b) wo w7 ∧ w7.ownsRow B e size vk m ys ∧ (v'.ownBlock = vk.ownBlock ∨ ∀ b, v'.ownBlock = some b → wo.heap.size ≤ b) := by
  refine ⟨hkg.grown hg (fun k hk => ?_), ?_, ?_⟩
  · rcases hlb with h | h
    · exact .inl (by show vk.ownBlock = some k; rw [← h]; exact hk)
    · exact .inr (h k hk)
  · rcases hlb with h | h
    · exact gow_prefix hv hl h hp hmn hl7 hsz
    · refine hv.kept hg ?_
      cases hk : vk.ownBlock with
      | none => exact .inl rfl
      | some b => exact .inr (fun e => by have := h b e.symm; have := hvo b hk; omega)
  · rcases hat with h | h
    · rw [h]; exact hlb
    · right
      intro b hb
      rw [h] at hb
      cases hb
      exact hkg.size
def GrI (L e : TypeId) (s : Nat) (mk : Nat → Nat → List Value) (w : World) (B : Nat) (vs : List Value) (ns : List Nat) (k : Nat) (o : Value) (wr : World) : Prop :=
  ∃ gs, KG (Blks vs) w wr ∧ wr.ownsRow w.heap.size L 1 o k gs ∧ ∀ (i m : Nat), ns[i]? = some m → ∃ v, vs[i]? = some v ∧ wr.ownsRow B e s v m (mks (mk i) 0 m) ∧
    (i < k → ∃ g, gs[i]? = some g ∧ wr.ownsRow B e s g (m + 72) (mks (mk i) 0 (m + 72)) ∧ ∀ b, g.ownBlock = some b → v.ownBlock = some b ∨ w.heap.size ≤ b)
theorem grw_next {L e : TypeId} {s : Nat} {mk : Nat → Nat → List Value} (hLe : e ≠ L) {w wo w9 : World} {B k m : Nat} {vs gs : List Value} {ns : List Nat} {o o' vk v' : Value} (hs : Sep vs) (hlt : ∀ k, Blks vs k → k < w.heap.size) (hmk : ns[k]? = some m) (hvk : vs[k]? = some vk) (hkw : KG (Blks vs) w wo)
    (hout : wo.ownsRow w.heap.size L 1 o k gs) (hrow : ∀ (i m : Nat), ns[i]? = some m → ∃ v, vs[i]? = some v ∧ wo.ownsRow B e s v m (mks (mk i) 0 m) ∧
      (i < k → ∃ g, gs[i]? = some g ∧ wo.ownsRow B e s g (m + 72) (mks (mk i) 0 (m + 72)) ∧ ∀ b, g.ownBlock = some b → v.ownBlock = some b ∨ w.heap.size ≤ b))
    (hK : KG (fun b => vk.ownBlock = some b ∨ o.ownBlock = some b) wo w9) (hvk9 : w9.ownsRow B e s vk m (mks (mk k) 0 m)) (hg9 : w9.ownsRow B e s v' (m + 72) (mks (mk k) 0 (m + 72))) (hfr : v'.ownBlock = vk.ownBlock ∨ ∀ b, v'.ownBlock = some b → wo.heap.size ≤ b)
    (hout9 : w9.ownsRow w.heap.size L 1 o' (k + 1) (gs ++ [v'])) : GrI L e s mk w B vs ns (k + 1) o' w9 := by
  have hgl : gs.length = k := by have := hout.1; omega
  have hno : ∀ {v : Value} {n : Nat} {xs : List Value}, wo.ownsRow B e s v n xs → ∀ b, v.ownBlock = some b → o.ownBlock ≠ some b := fun h b hb ho => absurd ((own_ty h hb).eq (own_ty hout ho)) hLe
  refine ⟨_, ?_, hout9, fun i m' hi => ?_⟩
  · have h1 : KG (fun b => Blks vs b ∨ w.heap.size ≤ b) w w9 := (hkw.mono (fun _ _ h => .inl h)).trans (hK.mono (fun b _ h => by
      rcases h with h | h
      · exact .inl ⟨vk, List.mem_of_getElem? hvk, h⟩
      · exact .inr (hout.lt b h).1))
    exact h1.mono (fun b hb h => by rcases h with h | h; exact h; omega)
  · obtain ⟨v, h1, h2, h3⟩ := hrow i m' hi
    refine ⟨v, h1, ?_, fun hik => ?_⟩
    · by_cases hik : i = k
      · subst hik
        rw [hmk] at hi
        cases hi
        rw [hvk] at h1
        cases h1
        exact hvk9
      · refine hK.own h2 (fun b hb h => ?_)
        rcases h with h | h
        · exact hs i k v vk b hik h1 hvk hb h
        · exact hno h2 b hb h
    · by_cases hik2 : i = k
      · subst hik2
        rw [hmk] at hi
        cases hi
        rw [hvk] at h1
        cases h1
        refine ⟨v', by rw [List.getElem?_append_right (by omega), hgl, Nat.sub_self]; rfl, hg9, fun b hb => ?_⟩
        rcases hfr with h | h
        · exact .inl (by rw [← h]; exact hb)
        · exact .inr (Nat.le_trans hkw.size (h b hb))
      · obtain ⟨g, e1, e2, e3⟩ := h3 (by omega)
        refine ⟨g, by rw [List.getElem?_append_left (by omega)]; exact e1, hK.own e2 (fun b hb h => ?_), e3⟩
        rcases h with h | h
        · rcases e3 b hb with e | e
          · exact hs i k v vk b hik2 h1 hvk e h
          · have := hlt b ⟨vk, List.mem_of_getElem? hvk, h⟩
            omega
        · exact hno e2 b hb h
def GrJ (e : TypeId) (s : Nat) (mk : Nat → List Value) (wo : World) (B : Nat) (vk : Value) (m : Nat) (l q : Value) (wr : World) : Prop :=
  ∃ t : Nat, t ≤ 12 ∧ q = .int .i64 (t : Int) ∧ KG (fun b => vk.ownBlock = some b) wo wr ∧ wr.ownsRow B e s l (m + t) (mks mk 0 (m + t)) ∧ wr.ownsRow B e s vk m (mks mk 0 m) ∧ (l.ownBlock = vk.ownBlock ∨ ∀ b, l.ownBlock = some b → wo.heap.size ≤ b)
theorem GrI.marks {L e : TypeId} {s k B : Nat} {mk : Nat → Nat → List Value} {w wr : World} {vs : List Value} {ns : List Nat} {o : Value} (h : GrI L e s mk w B vs ns k o wr) (hn : ns.length = k) :
    KG (Blks vs) w wr ∧ MkI e s mk B wr vs ns k ∧ ∃ gs, wr.ownsRow w.heap.size L 1 o k gs ∧ MkI e s mk B wr gs (ns.map (· + 72)) k := by
  obtain ⟨gs, h1, h2, h3⟩ := h
  refine ⟨h1, fun i m hi => ?_, gs, h2, fun i m hi => ?_⟩
  · obtain ⟨v, e1, e2, _⟩ := h3 i m hi
    exact ⟨v, _, e1, e2, fun _ => rfl⟩
  · rw [List.getElem?_map] at hi
    obtain ⟨m', hm', rfl⟩ := Option.map_eq_some_iff.1 hi
    obtain ⟨v, e1, e2, e3⟩ := h3 i m' hm'
    obtain ⟨g, f1, f2, _⟩ := e3 (by have := (List.getElem?_eq_some_iff.1 hm').1; omega)
    exact ⟨g, _, f1, f2, fun _ => rfl⟩
end Go.Proofs.YtegigcneimjimaaGreatDoor
