/- chanceryref18: base 64 as the document has it. -/
import Derived.Test.YtgdnekhndmijpaaDoorLdifU
import Derived.Test.YtgdnekhndmijpaaDoorPlainRef
import Derived.StillTailTactics
namespace Go.Proofs.YtgdnekhndmijpaaDoor
open Go.RowKit Go.Lib

theorem indexByte_at : ∀ (l : List UInt8) (c : UInt8) (k : Nat), (∀ j, j < k → l[j]? ≠ some c) → l[k]? = some c → indexByte l c = k
  | [], c, k, _, h => by simp at h
  | b :: l, c, 0, _, h => by simp at h; subst h; simp [indexByte]
  | b :: l, c, k + 1, h0, h => by
    have hb : (b == c) = false := by have := h0 0 (by omega); simpa using this
    have ih := indexByte_at l c k (fun j hj => by have := h0 (j + 1) (by omega); simpa using this) (by simpa using h)
    unfold indexByte
    rw [ih, hb, if_neg (by simp), if_neg (by simp)]
    rfl
theorem indexByte_no (l : List UInt8) (c : UInt8) (h : ∀ j, j < l.length → l[j]? ≠ some c) : indexByte l c = -1 := by
  induction l with
  | nil => rfl
  | cons b l ih =>
    have hb : (b == c) = false := by have := h 0 (by simp); simpa using this
    have := ih (fun j hj => by have := h (j + 1) (by simp; omega); simpa using this)
    unfold indexByte
    rw [this, hb]
    rfl
def tabA : ByteArray := ⟨#[65, 66, 67, 68, 69, 70, 71, 72, 73, 74, 75, 76, 77, 78, 79, 80, 81, 82, 83, 84, 85, 86, 87, 88, 89, 90, 97, 98, 99, 100, 101, 102, 103, 104, 105, 106, 107, 108, 109, 110, 111, 112, 113, 114, 115, 116, 117, 118, 119, 120, 121, 122, 48, 49, 50, 51, 52, 53, 54, 55, 56, 57, 43, 47]⟩
theorem tab_get (n : Nat) (hn : n < 64) (h : n < tabA.size) : tabA[n]'h = dig n := by
  rw [dig, List.getD_eq_getElem?_getD]
  show tab64[n]'hn = _
  rw [List.getElem?_eq_getElem hn]
  rfl
theorem dig_get (n : Nat) (hn : n < 64) : tab64[n]? = some (dig n) := by
  rw [dig, List.getD_eq_getElem?_getD, List.getElem?_eq_getElem hn]
  rfl
set_option maxRecDepth 100000 in
set_option maxHeartbeats 2000000 in
theorem rdigit_any (c : UInt8) (w : World) :
    Calls Tryd.prog 42 #[.int .u8 (c.toNat : Int)] w fun e w' => e = .returned (.int .i64 (indexByte tab64 c)) ∧ w = w' := by
  obtain ⟨ANS, hA⟩ : ∃ ANS, indexByte tab64 c = ANS := ⟨_, rfl⟩
  rw [hA]
  have HA := Lib.hid hA
  clear hA
  go_enter Tryd.func42, Tryd.ntmps42
  go_wp2_with fail
  go_loop [3] (fun i => ∃ k : Nat, i = .int .i64 (k : Int) ∧ k ≤ 64 ∧ ∀ j, j < k → tab64[j]? ≠ some c) (fun i => (64 - RowKit.intOf i).toNat)
  case atStart => exact ⟨0, rfl, by omega, fun j hj => by omega⟩
  case round =>
    obtain ⟨k, rfl, hk, hno⟩ := hrel
    have HN := Lib.hid hno
    clear hno
    by_cases h64 : k < 64
    · have hlit : ∀ h, (⟨#[65, 66, 67, 68, 69, 70, 71, 72, 73, 74, 75, 76, 77, 78, 79, 80, 81, 82, 83, 84, 85, 86, 87, 88, 89, 90, 97, 98, 99, 100, 101, 102, 103, 104, 105, 106, 107, 108, 109, 110, 111, 112, 113, 114, 115, 116, 117, 118, 119, 120, 121, 122, 48, 49, 50, 51, 52, 53, 54, 55, 56, 57, 43, 47]⟩ : ByteArray)[k]'h = dig k := fun h => tab_get k h64 h
      have hdk := dig_get k h64
      obtain ⟨x, hx⟩ : ∃ x, dig k = x := ⟨_, rfl⟩
      rw [hx] at hdk
      have HX := Lib.hid hdk
      simp only [hx] at hlit
      clear hx hdk
      by_cases hxc : x = c
      · subst hxc
        have hans : ANS = (k : Int) := by rw [← HA.out]; exact indexByte_at _ _ _ HN.out HX.out
        clear HA HN HX
        subst hans
        go_wp2_with fail
        go_ret
        exact ⟨rfl, rfl⟩
      · have hbq : ((x.toNat : Int) == (c.toNat : Int)) = false := by
          rw [beq_eq_false_iff_ne]
          intro h
          exact hxc (UInt8.toNat.inj (by omega))
        have hno2 : ∀ j, j < k + 1 → tab64[j]? ≠ some c := by
          intro j hj
          rcases Nat.lt_or_ge j k with h | h
          · exact HN.out j h
          · obtain rfl : j = k := by omega
            rw [HX.out]
            intro h
            exact hxc (Option.some.inj h)
        have HN2 := Lib.hid hno2
        clear hno2 hxc HN HX HA
        go_wp2_with fail
        exact ⟨⟨k + 1, by go_num, by omega, HN2.out⟩, by simp [RowKit.intOf]; omega⟩
    · obtain rfl : k = 64 := by omega
      have hans : ANS = -1 := by rw [← HA.out]; exact indexByte_no _ _ HN.out
      subst hans
      clear HA HN
      go_wp2_with fail
      go_ret
      exact ⟨rfl, rfl⟩
theorem cells_new (w : World) (xs : List Value) (t : TypeId) : ∀ j u, xs[j]? = some u → (w.alloc (.cells xs.toArray t)).cell? ((⟨w.heap.size, 0, none⟩ : Addr).add j) = some u := by
  intro j u hj
  rw [Addr.add_lit, Nat.zero_add]
  have hb : (w.alloc (.cells xs.toArray t)).heap[w.heap.size]? = some (.cells xs.toArray t (0, 0)) := by show (w.heap.push _)[w.heap.size]? = _; simp
  rw [Lib.cell_of_heap hb]
  simpa using hj
def R3 (r : List UInt8) (v n k : Value) : Prop := ∃ j : Nat, k = .int .i64 (j : Int) ∧ j ≤ 3 ∧ v = .int .i64 (xr r j : Nat) ∧ n = .int .i64 ((min j r.length : Nat) : Int)
def RRel (w : World) (l ANS : List UInt8) (v i : Value) (wr : World) : Prop :=
  ∃ (k : Nat) (o : List UInt8), i = .int .i64 (k : Int) ∧ k ≤ l.length + 2 ∧ o.length ≤ 2 * k ∧ wr.ownsRow w.heap.size 5 1 v o.length (bV o) ∧ Below w.heap.size w wr ∧ o ++ b64 (l.drop k) = ANS
set_option maxRecDepth 100000 in
set_option maxHeartbeats 2000000 in
theorem RBase64_any (l : List UInt8) (w : World) (hl : l.length ≤ 1099511627776) :
    Calls Tryd.prog 18 #[.string ⟨l.toArray⟩] w fun e w' => e = .returned (.string ⟨(b64 l).toArray⟩) ∧ Below w.heap.size w w' := by
  obtain ⟨ANS, hN⟩ : ∃ ANS, b64 l = ANS := ⟨_, rfl⟩
  rw [hN]
  have HN := Lib.hid hN
  clear hN
  go_enter Tryd.func18, Tryd.ntmps18
  go_wp2_with fail
  go_loopw [3, 4] (fun v i wr => RRel w l ANS v i wr) (fun _ i _ => (l.length - (RowKit.intOf i).toNat))
  case atStart => exact ⟨0, [], rfl, by omega, by simp, World.ownsRow_nil _ _ _ _, Below.refl _ _, HN.out⟩
  case round =>
    obtain ⟨k, o, rfl, hk, ho, hown, hbe, hans⟩ := hrel
    have HA := Lib.hid hans
    clear hans HN
    by_cases hkl : k < l.length
    · obtain ⟨r, hr⟩ : ∃ r, l.drop k = r := ⟨_, rfl⟩
      have hrl : r.length = l.length - k := by rw [← hr, List.length_drop]
      have hr0 : r ≠ [] := by intro h; rw [h] at hrl; simp at hrl; omega
      have hget : ∀ (j : Nat) (h : k + j < (⟨l.toArray⟩ : ByteArray).size) (h2 : j < r.length), (⟨l.toArray⟩ : ByteArray)[k + j]'h = r.getD j 0 := by
        intro j h h2
        show l[k + j]'(by rw [Lib.size_mk] at h; exact h) = _
        rw [List.getD_eq_getElem?_getD, ← hr, List.getElem?_drop, List.getElem?_eq_getElem]
        rfl
      have HR := Lib.hid hr
      clear hr
      go_wp2_with fail
      go_loop [5, 6, 7] (fun v n k => R3 r v n k) (fun _ _ k => (3 - RowKit.intOf k).toNat)
      case atStart => exact ⟨0, rfl, by omega, rfl, by simp⟩
      case round =>
        obtain ⟨j, rfl, hj, rfl, rfl⟩ := hrel
        by_cases hj3 : j < 3
        · have hx1 := xr_lt r j
          have h2 : 256 ^ j ≤ 256 ^ 2 := Nat.pow_le_pow_right (by omega) (by omega)
          have hxs : xr r (j + 1) = xr r j * 256 + (r.getD j 0).toNat := rfl
          have hb := UInt8.toNat_lt (r.getD j 0)
          by_cases hjr : j < r.length
          · have hg := hget j (by rw [Lib.size_mk]; omega) hjr
            obtain ⟨x, hx⟩ : ∃ x, r.getD j 0 = x := ⟨_, rfl⟩
            rw [hx] at hg hxs hb
            obtain ⟨X, hX⟩ : ∃ X, xr r j = X := ⟨_, rfl⟩
            rw [hX] at hxs hx1 ⊢
            obtain ⟨m, hm⟩ : ∃ m, min j r.length = m := ⟨_, rfl⟩
            rw [hm]
            have hmj : m = j := by omega
            clear hm hX hx
            have HX := Lib.hid hxs
            clear hxs
            go_wp2_with fail
            refine ⟨⟨j + 1, by go_num, by omega, ?_, ?_⟩, ?_⟩
            · rw [HX.out]; simp
            · rw [show min (j + 1) r.length = j + 1 by omega]; rfl
            · simp [RowKit.intOf]; omega
          · have hx : (r.getD j 0) = 0 := by rw [List.getD_eq_getElem?_getD, List.getElem?_eq_none (by omega)]; rfl
            rw [hx] at hxs hb
            obtain ⟨X, hX⟩ : ∃ X, xr r j = X := ⟨_, rfl⟩
            rw [hX] at hxs hx1 ⊢
            obtain ⟨m, hm⟩ : ∃ m, min j r.length = m := ⟨_, rfl⟩
            rw [hm]
            have hmj : min (j + 1) r.length = m := by omega
            have HM := Lib.hid hmj
            clear hm hX hx hmj
            have HX := Lib.hid hxs
            clear hxs
            go_wp2_with fail
            refine ⟨⟨j + 1, by go_num, by omega, ?_, ?_⟩, ?_⟩
            · rw [HX.out]; simp
            · rw [HM.out]
            · simp [RowKit.intOf]; omega
        · obtain rfl : j = 3 := by omega
          have hX := xr_lt r 3
          have hqd : ∀ i, qd r i = if r.length < i then 61 else dig (xr r 3 / 2 ^ (18 - 6 * i) % 64) := fun i => rfl
          obtain ⟨X, hXe⟩ : ∃ X, xr r 3 = X := ⟨_, rfl⟩
          simp only [hXe] at hX hqd ⊢
          obtain ⟨n0, hn0⟩ : ∃ n, X / 262144 = n := ⟨_, rfl⟩
          obtain ⟨m1, hm1⟩ : ∃ n, X / 4096 = n := ⟨_, rfl⟩
          obtain ⟨m2, hm2⟩ : ∃ n, X / 64 = n := ⟨_, rfl⟩
          obtain ⟨n1, hn1⟩ : ∃ n, m1 % 64 = n := ⟨_, rfl⟩
          obtain ⟨n2, hn2⟩ : ∃ n, m2 % 64 = n := ⟨_, rfl⟩
          obtain ⟨n3, hn3⟩ : ∃ n, X % 64 = n := ⟨_, rfl⟩
          have e0 : (X : Int) / 262144 = (n0 : Int) := by omega
          have e1 : (X : Int) / 4096 = (m1 : Int) := by omega
          have e2 : (X : Int) / 64 = (m2 : Int) := by omega
          have e3 : (X : Int) % 64 = (n3 : Int) := by omega
          have e4 : (m1 : Int) % 64 = (n1 : Int) := by omega
          have e5 : (m2 : Int) % 64 = (n2 : Int) := by omega
          have t1 : Int.tmod (m1 : Int) 64 = (n1 : Int) := by rw [Int.tmod_eq_emod_of_nonneg (by omega)]; omega
          have t2 : Int.tmod (m2 : Int) 64 = (n2 : Int) := by rw [Int.tmod_eq_emod_of_nonneg (by omega)]; omega
          have t3 : Int.tmod (X : Int) 64 = (n3 : Int) := by rw [Int.tmod_eq_emod_of_nonneg (by omega)]; omega
          have b0 : (n0 : Int) < 64 := by omega
          have b1 : (n1 : Int) < 64 := by omega
          have b2 : (n2 : Int) < 64 := by omega
          have b3 : (n3 : Int) < 64 := by omega
          have w0 : IntKind.i64.wrap (n0 : Int) = (n0 : Int) := wraps_i64 _ (by omega) (by omega)
          have w1 : IntKind.i64.wrap (n1 : Int) = (n1 : Int) := wraps_i64 _ (by omega) (by omega)
          have w2 : IntKind.i64.wrap (n2 : Int) = (n2 : Int) := wraps_i64 _ (by omega) (by omega)
          have w3 : IntKind.i64.wrap (n3 : Int) = (n3 : Int) := wraps_i64 _ (by omega) (by omega)
          have w4 : IntKind.i64.wrap (m1 : Int) = (m1 : Int) := wraps_i64 _ (by omega) (by omega)
          have w5 : IntKind.i64.wrap (m2 : Int) = (m2 : Int) := wraps_i64 _ (by omega) (by omega)
          have hl0 : ∀ h, (⟨#[65, 66, 67, 68, 69, 70, 71, 72, 73, 74, 75, 76, 77, 78, 79, 80, 81, 82, 83, 84, 85, 86, 87, 88, 89, 90, 97, 98, 99, 100, 101, 102, 103, 104, 105, 106, 107, 108, 109, 110, 111, 112, 113, 114, 115, 116, 117, 118, 119, 120, 121, 122, 48, 49, 50, 51, 52, 53, 54, 55, 56, 57, 43, 47]⟩ : ByteArray)[n0]'h = dig n0 := fun h => tab_get n0 (by omega) h
          have hl1 : ∀ h, (⟨#[65, 66, 67, 68, 69, 70, 71, 72, 73, 74, 75, 76, 77, 78, 79, 80, 81, 82, 83, 84, 85, 86, 87, 88, 89, 90, 97, 98, 99, 100, 101, 102, 103, 104, 105, 106, 107, 108, 109, 110, 111, 112, 113, 114, 115, 116, 117, 118, 119, 120, 121, 122, 48, 49, 50, 51, 52, 53, 54, 55, 56, 57, 43, 47]⟩ : ByteArray)[n1]'h = dig n1 := fun h => tab_get n1 (by omega) h
          have hl2 : ∀ h, (⟨#[65, 66, 67, 68, 69, 70, 71, 72, 73, 74, 75, 76, 77, 78, 79, 80, 81, 82, 83, 84, 85, 86, 87, 88, 89, 90, 97, 98, 99, 100, 101, 102, 103, 104, 105, 106, 107, 108, 109, 110, 111, 112, 113, 114, 115, 116, 117, 118, 119, 120, 121, 122, 48, 49, 50, 51, 52, 53, 54, 55, 56, 57, 43, 47]⟩ : ByteArray)[n2]'h = dig n2 := fun h => tab_get n2 (by omega) h
          have hl3 : ∀ h, (⟨#[65, 66, 67, 68, 69, 70, 71, 72, 73, 74, 75, 76, 77, 78, 79, 80, 81, 82, 83, 84, 85, 86, 87, 88, 89, 90, 97, 98, 99, 100, 101, 102, 103, 104, 105, 106, 107, 108, 109, 110, 111, 112, 113, 114, 115, 116, 117, 118, 119, 120, 121, 122, 48, 49, 50, 51, 52, 53, 54, 55, 56, 57, 43, 47]⟩ : ByteArray)[n3]'h = dig n3 := fun h => tab_get n3 (by omega) h
          have hq0 : qd r 0 = dig n0 := by rw [hqd, if_neg (by omega)]; congr 1; simp only [Nat.mul_zero, Nat.sub_zero, Nat.reducePow]; omega
          have hq1 : ¬ r.length < 1 → qd r 1 = dig n1 := fun h => by rw [hqd, if_neg h]; congr 1; simp only [Nat.mul_one, Nat.reduceSub, Nat.reducePow]; omega
          have hq2 : ¬ r.length < 2 → qd r 2 = dig n2 := fun h => by rw [hqd, if_neg h]; congr 1; simp only [Nat.reduceMul, Nat.reduceSub, Nat.reducePow]; omega
          have hq3 : ¬ r.length < 3 → qd r 3 = dig n3 := fun h => by rw [hqd, if_neg h]; congr 1; simp only [Nat.reduceMul, Nat.reduceSub, Nat.reducePow]; omega
          have hp2 : r.length < 2 → qd r 2 = 61 := fun h => by rw [hqd, if_pos h]
          have hp3 : r.length < 3 → qd r 3 = 61 := fun h => by rw [hqd, if_pos h]
          have hqr := quad_qd r hr0
          obtain ⟨x0, hx0⟩ : ∃ x, dig n0 = x := ⟨_, rfl⟩
          obtain ⟨x1, hx1⟩ : ∃ x, dig n1 = x := ⟨_, rfl⟩
          obtain ⟨x2, hx2⟩ : ∃ x, dig n2 = x := ⟨_, rfl⟩
          obtain ⟨x3, hx3⟩ : ∃ x, dig n3 = x := ⟨_, rfl⟩
          simp only [hx0] at hl0 hq0
          simp only [hx1] at hl1 hq1
          simp only [hx2] at hl2 hq2
          simp only [hx3] at hl3 hq3
          have hr1 : 1 ≤ r.length := by omega
          have hstep := b64_step r hr0
          have hdrop : r.drop 3 = l.drop (k + 3) := by rw [← HR.out, List.drop_drop]
          rw [hdrop] at hstep
          have hans := HA.out
          rw [HR.out, hstep, ← List.append_assoc] at hans
          have HS := Lib.hid hans
          clear hx0 hx1 hx2 hx3 hqd hXe hn0 hn1 hn2 hn3 hm1 hm2 hans hstep hdrop HA HR
          have hown1 : wr.drew.ownsRow w.heap.size 5 1 u3 o.length (bV o) := hown
          have hbe1 : Below w.heap.size w wr.drew := hbe.drew
          obtain ⟨i0, hi0, hz0, hz1, hz2⟩ := info_parts Tryd.infoByte
          obtain ⟨N, hN⟩ : ∃ N, min 3 r.length = N := ⟨_, rfl⟩
          rw [hN]
          have hN3 : N = 1 ∨ N = 2 ∨ N = 3 := by omega
          rcases hN3 with rfl | rfl | rfl
          · have hqe : quad r = [x0, x1, 61, 61] := by rw [hqr, hq0, hq1 (by omega), hp2 (by omega), hp3 (by omega)]
            have hans := HS.out
            rw [hqe] at hans
            have HS2 := Lib.hid hans
            clear hans hqr hq0 hq1 hq2 hq3 hp2 hp3 HS hqe
            go_wp2_with fail
            go_still_tail 14, (by kernel_rfl)
            change wpList _ _ _ _ _ wr.drew
            generalize wr.drew = wd at hown1 hbe1 ⊢
            clear hown hbe
            have hsz := hbe1.size
            go_wp2_with fail
            go_loopw [9] (fun kv wq => (kv = .int .i64 2 ∧ wq = wd.alloc (.cells #[.int .u8 ((x0 : UInt8).toNat : Int), .int .u8 ((x1 : UInt8).toNat : Int), .int .u8 ((x2 : UInt8).toNat : Int), .int .u8 ((x3 : UInt8).toNat : Int)] 5)) ∨ (kv = .int .i64 3 ∧ wq = wd.alloc (.cells #[.int .u8 ((x0 : UInt8).toNat : Int), .int .u8 ((x1 : UInt8).toNat : Int), .int .u8 ((61 : UInt8).toNat : Int), .int .u8 ((x3 : UInt8).toNat : Int)] 5)) ∨ (kv = .int .i64 4 ∧ wq = wd.alloc (.cells #[.int .u8 ((x0 : UInt8).toNat : Int), .int .u8 ((x1 : UInt8).toNat : Int), .int .u8 ((61 : UInt8).toNat : Int), .int .u8 ((61 : UInt8).toNat : Int)] 5))) (fun kv _ => (4 - RowKit.intOf kv).toNat)
            case atStart => first | exact ⟨rfl, rfl⟩ | exact .inl ⟨rfl, rfl⟩
            case round =>
              rcases hrel with ⟨rfl, rfl⟩ | ⟨rfl, rfl⟩ | ⟨rfl, rfl⟩
              · go_wp2_with fail
                exact ⟨.inr (.inl (⟨rfl, rfl⟩)), by decide⟩
              · go_wp2_with fail
                exact ⟨.inr (.inr (⟨rfl, rfl⟩)), by decide⟩
              · go_wp2_with (at_builtin; refine wpList_append_own _ rfl (.tmp 62) (.tmp 63) 45 rfl w.heap.size 5 i0 (.int .u8 0) 1 1 Tryd.underlying45 hi0 hz0 hz1 hz2 rfl (by decide) u3 o.length (bV o) rfl (hown1.alloc _) ⟨wd.heap.size, 0, none⟩ 4 4 [.int .u8 ((x0 : UInt8).toNat : Int), .int .u8 ((x1 : UInt8).toNat : Int), .int .u8 ((61 : UInt8).toNat : Int), .int .u8 ((61 : UInt8).toNat : Int)] rfl rfl (cells_new wd [.int .u8 ((x0 : UInt8).toNat : Int), .int .u8 ((x1 : UInt8).toNat : Int), .int .u8 ((61 : UInt8).toNat : Int), .int .u8 ((61 : UInt8).toNat : Int)] 5) ?d2 ?d3 ?d4 ?d5 ?_)
                case d2 => intro u hu; simp at hu; rcases hu with rfl | rfl | rfl | rfl <;> rfl
                case d3 => unfold maxLen; omega
                case d4 => omega
                case d5 => simp; omega
                intro v' w3 ho3 hg3 _
                go_wp2_with fail
                go_roundw
                case rel =>
                  refine ⟨k + 3, o ++ [x0, x1, 61, 61], by go_num, by omega, by simp; omega, ?_, ?_, HS2.out⟩
                  · rw [List.length_append, bV_append]
                    exact ho3
                  · exact (hbe1.alloc hsz _).grown hg3 (by simp; omega) (fun b hb => (hown1.lt b hb).1)
                case measure => simp [RowKit.intOf]; omega
          · have hqe : quad r = [x0, x1, x2, 61] := by rw [hqr, hq0, hq1 (by omega), hq2 (by omega), hp3 (by omega)]
            have hans := HS.out
            rw [hqe] at hans
            have HS2 := Lib.hid hans
            clear hans hqr hq0 hq1 hq2 hq3 hp2 hp3 HS hqe
            go_wp2_with fail
            go_still_tail 14, (by kernel_rfl)
            change wpList _ _ _ _ _ wr.drew
            generalize wr.drew = wd at hown1 hbe1 ⊢
            clear hown hbe
            have hsz := hbe1.size
            go_wp2_with fail
            go_loopw [9] (fun kv wq => (kv = .int .i64 3 ∧ wq = wd.alloc (.cells #[.int .u8 ((x0 : UInt8).toNat : Int), .int .u8 ((x1 : UInt8).toNat : Int), .int .u8 ((x2 : UInt8).toNat : Int), .int .u8 ((x3 : UInt8).toNat : Int)] 5)) ∨ (kv = .int .i64 4 ∧ wq = wd.alloc (.cells #[.int .u8 ((x0 : UInt8).toNat : Int), .int .u8 ((x1 : UInt8).toNat : Int), .int .u8 ((x2 : UInt8).toNat : Int), .int .u8 ((61 : UInt8).toNat : Int)] 5))) (fun kv _ => (4 - RowKit.intOf kv).toNat)
            case atStart => first | exact ⟨rfl, rfl⟩ | exact .inl ⟨rfl, rfl⟩
            case round =>
              rcases hrel with ⟨rfl, rfl⟩ | ⟨rfl, rfl⟩
              · go_wp2_with fail
                exact ⟨.inr (⟨rfl, rfl⟩), by decide⟩
              · go_wp2_with (at_builtin; refine wpList_append_own _ rfl (.tmp 62) (.tmp 63) 45 rfl w.heap.size 5 i0 (.int .u8 0) 1 1 Tryd.underlying45 hi0 hz0 hz1 hz2 rfl (by decide) u3 o.length (bV o) rfl (hown1.alloc _) ⟨wd.heap.size, 0, none⟩ 4 4 [.int .u8 ((x0 : UInt8).toNat : Int), .int .u8 ((x1 : UInt8).toNat : Int), .int .u8 ((x2 : UInt8).toNat : Int), .int .u8 ((61 : UInt8).toNat : Int)] rfl rfl (cells_new wd [.int .u8 ((x0 : UInt8).toNat : Int), .int .u8 ((x1 : UInt8).toNat : Int), .int .u8 ((x2 : UInt8).toNat : Int), .int .u8 ((61 : UInt8).toNat : Int)] 5) ?d2 ?d3 ?d4 ?d5 ?_)
                case d2 => intro u hu; simp at hu; rcases hu with rfl | rfl | rfl | rfl <;> rfl
                case d3 => unfold maxLen; omega
                case d4 => omega
                case d5 => simp; omega
                intro v' w3 ho3 hg3 _
                go_wp2_with fail
                go_roundw
                case rel =>
                  refine ⟨k + 3, o ++ [x0, x1, x2, 61], by go_num, by omega, by simp; omega, ?_, ?_, HS2.out⟩
                  · rw [List.length_append, bV_append]
                    exact ho3
                  · exact (hbe1.alloc hsz _).grown hg3 (by simp; omega) (fun b hb => (hown1.lt b hb).1)
                case measure => simp [RowKit.intOf]; omega
          · have hqe : quad r = [x0, x1, x2, x3] := by rw [hqr, hq0, hq1 (by omega), hq2 (by omega), hq3 (by omega)]
            have hans := HS.out
            rw [hqe] at hans
            have HS2 := Lib.hid hans
            clear hans hqr hq0 hq1 hq2 hq3 hp2 hp3 HS hqe
            go_wp2_with fail
            go_still_tail 14, (by kernel_rfl)
            change wpList _ _ _ _ _ wr.drew
            generalize wr.drew = wd at hown1 hbe1 ⊢
            clear hown hbe
            have hsz := hbe1.size
            go_wp2_with fail
            go_loopw [9] (fun kv wq => (kv = .int .i64 4 ∧ wq = wd.alloc (.cells #[.int .u8 ((x0 : UInt8).toNat : Int), .int .u8 ((x1 : UInt8).toNat : Int), .int .u8 ((x2 : UInt8).toNat : Int), .int .u8 ((x3 : UInt8).toNat : Int)] 5))) (fun kv _ => (4 - RowKit.intOf kv).toNat)
            case atStart => first | exact ⟨rfl, rfl⟩ | exact .inl ⟨rfl, rfl⟩
            case round =>
              obtain ⟨rfl, rfl⟩ := hrel
              · go_wp2_with (at_builtin; refine wpList_append_own _ rfl (.tmp 62) (.tmp 63) 45 rfl w.heap.size 5 i0 (.int .u8 0) 1 1 Tryd.underlying45 hi0 hz0 hz1 hz2 rfl (by decide) u3 o.length (bV o) rfl (hown1.alloc _) ⟨wd.heap.size, 0, none⟩ 4 4 [.int .u8 ((x0 : UInt8).toNat : Int), .int .u8 ((x1 : UInt8).toNat : Int), .int .u8 ((x2 : UInt8).toNat : Int), .int .u8 ((x3 : UInt8).toNat : Int)] rfl rfl (cells_new wd [.int .u8 ((x0 : UInt8).toNat : Int), .int .u8 ((x1 : UInt8).toNat : Int), .int .u8 ((x2 : UInt8).toNat : Int), .int .u8 ((x3 : UInt8).toNat : Int)] 5) ?d2 ?d3 ?d4 ?d5 ?_)
                case d2 => intro u hu; simp at hu; rcases hu with rfl | rfl | rfl | rfl <;> rfl
                case d3 => unfold maxLen; omega
                case d4 => omega
                case d5 => simp; omega
                intro v' w3 ho3 hg3 _
                go_wp2_with fail
                go_roundw
                case rel =>
                  refine ⟨k + 3, o ++ [x0, x1, x2, x3], by go_num, by omega, by simp; omega, ?_, ?_, HS2.out⟩
                  · rw [List.length_append, bV_append]
                    exact ho3
                  · exact (hbe1.alloc hsz _).grown hg3 (by simp; omega) (fun b hb => (hown1.lt b hb).1)
                case measure => simp [RowKit.intOf]; omega
    · have hs := HA.out
      rw [List.drop_of_length_le (by omega), b64_nil, List.append_nil] at hs
      subst hs
      have hcv := run_str_own (P := Tryd.prog) wr 45 9 5 w.heap.size u3 o Tryd.underlying45 Tryd.underlying5 Tryd.underlying9 hown
      go_wp2_with fail
      go_ret
      exact ⟨rfl, hbe⟩
end Go.Proofs.YtgdnekhndmijpaaDoor
