/- octet.Hex, dn.written: what they return. -/
import Derived.Test.YtegigcneimjimaaGreatDoorDnW
import Derived.Test.YtegigcneimjimaaGreatDoorDnH
import Derived.Test.YtegigcneimjimaaGreatDoorPlainEsc
import Derived.Lib.QuoteBits
import Derived.Deep.RegionLaw
import Derived.Deep.AppendLies
namespace Go.Proofs.YtegigcneimjimaaGreatDoor
open Go.RowKit Go.Lib

def HexRel (w : World) (s ANS : List UInt8) (v i : Value) (wr : World) : Prop :=
  ∃ (k : Nat) (o : List UInt8), i = .int .i64 (k : Int) ∧ k ≤ s.length ∧ o.length = 2 * k ∧ wr.ownsRow w.heap.size 5 1 v o.length (bV o) ∧ Below w.heap.size w wr ∧ o ++ hexL (s.drop k) = ANS
theorem digits_at (n : Nat) (h : n < 16) : ∀ h', (⟨#[48, 49, 50, 51, 52, 53, 54, 55, 56, 57, 97, 98, 99, 100, 101, 102]⟩ : ByteArray)[n]'h' = hexC n := by
  intro h'
  have : ∀ i : Fin 16, (⟨#[48, 49, 50, 51, 52, 53, 54, 55, 56, 57, 97, 98, 99, 100, 101, 102]⟩ : ByteArray)[i.val]'(by have := i.isLt; simp [ByteArray.size]) = hexC i.val := by decide +kernel
  exact this ⟨n, h⟩
theorem and_low8 (x : UInt8) : bits .and .u8 (x.toNat : Int) 15 = ((x.toNat % 16 : Nat) : Int) := by
  have : ∀ i : Fin 256, bits .and .u8 (i.val : Int) 15 = ((i.val % 16 : Nat) : Int) := by decide +kernel
  exact this ⟨x.toNat, UInt8.toNat_lt x⟩
theorem cells_two (w : World) (x y : Value) (t : TypeId) : ∀ j u, ([x, y] : List Value)[j]? = some u → (w.alloc (.cells #[x, y] t)).cell? ((⟨w.heap.size, 0, none⟩ : Addr).add j) = some u := by
  intro j u hj
  have hh : (w.alloc (.cells #[x, y] t)).heap[w.heap.size]? = some (.cells #[x, y] t (0, 0)) := by show (w.heap.push _)[w.heap.size]? = some _; simp
  rw [Addr.add_lit, Nat.zero_add, Lib.cell_of_heap hh]
  simpa using hj
set_option maxRecDepth 100000 in
set_option maxHeartbeats 2000000 in
theorem Hex_any (s : List UInt8) (w : World) (hs : s.length ≤ 1099511627776) :
    Calls Tryz.prog 209 #[.string ⟨s.toArray⟩] w fun e w' => e = .returned (.string ⟨(hexL s).toArray⟩) ∧ Below w.heap.size w w' := by
  obtain ⟨H, hH⟩ : ∃ H, 2 * s.length = H := ⟨_, rfl⟩
  have q3 : 2 * (s.length : Int) = (H : Int) := by omega
  obtain ⟨ANS, hA⟩ : ∃ ANS, hexL s = ANS := ⟨_, rfl⟩
  rw [hA]
  have HA := Lib.hid hA
  clear hA
  obtain ⟨i0, hi0, hz0, hz1, hz2⟩ := info_parts Tryz.infoByte
  go_enter Tryz.func209, Tryz.ntmps209
  go_wp2_with (refine wpList_make_own _ rfl (.const (.int .i64 0)) (.tmp 7) 153 rfl w.heap.size 5 i0 (.int .u8 0) 1 Tryz.underlying153 hi0 hz0 hz1 .i64 .i64 (H : Int) H rfl rfl rfl ?_ ?_ (Nat.le_refl _) ?_)
  case refine_1 => rw [hz2]; omega
  case refine_2 => unfold maxLen; omega
  intro w1 ho1 hg1
  have hb1 : Below w.heap.size w w1 := (Below.refl _ w).grown hg1 (Nat.le_refl _) (fun k hk => by cases hk)
  go_wp2_with fail
  go_loopw [3, 11] (fun v i wr => HexRel w s ANS v i wr) (fun _ i _ => s.length - (RowKit.intOf i).toNat)
  case atStart => exact ⟨0, [], rfl, by omega, by simp, ho1, hb1, HA.out⟩
  case round =>
    clear ho1 hg1 hb1 HA q3 hH
    obtain ⟨k, o, rfl, hk, ho, hown, hbe, hans⟩ := hrel
    have hsz := hbe.size
    by_cases hkl : k < s.length
    · obtain ⟨x, hx⟩ : ∃ x, s[k] = x := ⟨_, rfl⟩
      have hbx : ∀ h', (⟨s.toArray⟩ : ByteArray)[k]'h' = x := fun h' => hx
      have hx8 := UInt8.toNat_lt x
      rw [List.drop_eq_getElem_cons hkl, hx, hexL_cons] at hans
      obtain ⟨n1, hn1⟩ : ∃ n, x.toNat / 16 = n := ⟨_, rfl⟩
      obtain ⟨n2, hn2⟩ : ∃ n, x.toNat % 16 = n := ⟨_, rfl⟩
      rw [hn1, hn2] at hans
      have hl1 : n1 < 16 := by omega
      have hl2 : n2 < 16 := by omega
      have HS := Lib.hid hans
      clear hans
      have g3 : (k : Int) < (s.length : Int) := by omega
      have g4 : decide ((k : Int) < (s.length : Int)) = true := decide_eq_true g3
      have d1 := digits_at n1 hl1
      have d2 := digits_at n2 hl2
      go_wp2
      have e1 : (x.toNat : Int) / 16 = (n1 : Int) := by omega
      have e2 := and_low8 x
      rw [hn2] at e2
      clear hn1 hn2 hx
      have e1b : (n1 : Int) < 16 := by omega
      have e2b : (n2 : Int) < 16 := by omega
      have hownD : wr.drew.ownsRow w.heap.size 5 1 u3 o.length (bV o) := hown
      have HO := Lib.hid ho
      have ho2 : o.length ≤ 2 * k := by omega
      clear ho
      go_region_law (refine step_append_lies _ (by rfl) _ _ _ (by rfl) w.heap.size 5 i0 _ 1 1 Tryz.underlying153 hi0 hz0 hz1 hz2 rfl (by omega) u3 o.length (bV o) (by rfl) (hownD.alloc _) ⟨wr.heap.size, 0, none⟩ 2 2 [.int .u8 ((hexC n1).toNat : Int), .int .u8 ((hexC n2).toNat : Int)] (by rfl) (by rfl) (cells_two _ _ _ _) (by simp [Value.oneCell']) (by omega) (by unfold maxLen; omega) (by omega) (by simp; omega) (wr.heap.size + 1) (by simp) ?_; intro g7 cap7 w7 ho7 hg7 hat7 hlt7)
      all_goals
        go_wp2_with fail
        go_roundw
        case rel =>
          refine ⟨k + 1, o ++ [hexC n1, hexC n2], by go_num, by omega, by rw [List.length_append, HO.out]; simp; omega, ?_, ?_, by rw [← HS.out]; simp⟩
          · rw [List.length_append, bV_append]
            exact ho7
          · exact ((Below.drew hbe).alloc (by simpa using hsz) _).grown hg7 (by simp; omega) (fun b hb => (hown.lt b hb).1)
        case measure => simp [RowKit.intOf]; omega
    · obtain rfl : k = s.length := by omega
      rw [List.drop_of_length_le (Nat.le_refl _)] at hans
      simp only [hexL, List.flatMap_nil, List.append_nil] at hans
      subst hans
      have hcv := run_str_own (P := Tryz.prog) wr 153 9 5 w.heap.size u3 o Tryz.underlying153 Tryz.underlying5 Tryz.underlying9 hown
      go_wp2_with fail
      go_ret
      exact ⟨rfl, hbe⟩
set_option maxRecDepth 100000 in
set_option maxHeartbeats 2000000 in
theorem written_any (s : List UInt8) (w : World) (hs : s.length ≤ 1099511627776) (hE : Env w) :
    Calls Tryz.prog 126 #[.string ⟨s.toArray⟩] w fun e w' => e = .returned (.string ⟨(writtenB s).toArray⟩) ∧ Below w.heap.size w w' := by
  by_cases hv : validD s = true
  · have k := written_valid s w hs hE hv
    unfold writtenB
    rw [if_pos hv]
    exact k
  · have k1 := Text_any s w hs hE
    rw [show validD s = false by simpa using hv] at k1
    obtain ⟨ANS, hA⟩ : ∃ ANS, hexL s = ANS := ⟨_, rfl⟩
    have e : writtenB s = 35 :: ANS := by unfold writtenB; rw [if_neg hv, hA]
    have hl := hexL_length s
    rw [hA] at hl
    have hcat : (⟨#[35]⟩ ++ ⟨ANS.toArray⟩ : ByteArray) = ⟨(35 :: ANS).toArray⟩ := by
      apply ByteArray.ext
      simp [ByteArray.data_append]
    rw [e]
    have kh := fun w1 => Hex_any s w1 hs
    rw [hA] at kh
    have hl2 : ANS.length ≤ 2199023255552 := by omega
    obtain ⟨R, hR⟩ : ∃ R, 35 :: ANS = R := ⟨_, rfl⟩
    rw [hR] at hcat ⊢
    clear hA e hv hR hl
    go_enter Tryz.func126, Tryz.ntmps126
    go_wp2_with (first | (go_at_call 208; refine Calls.mono (show Calls _ _ _ _ _ from k1) ?_; rintro e w1 ⟨rfl, hb1⟩) | (go_at_call 209; refine Calls.mono (show Calls _ _ _ _ _ from kh w1) ?_; rintro e w2 ⟨rfl, hb2⟩))
    go_ret
    exact ⟨rfl, below_ext hb1 hb2⟩
end Go.Proofs.YtegigcneimjimaaGreatDoor
