/- The document's own answers of chapter 1 on texts: Good, Text, PutRune. -/
import Derived.Test.YtlbfmapbpbpipaaDoorRefOne
namespace Go.Proofs.YtlbfmapbpbpipaaDoor
open Go.RowKit Go.Lib

def goodB (l : List UInt8) : Bool := !decide ((decodeL l).1 = 65533 ∧ (decodeL l).2 = 1)
set_option maxHeartbeats 1000000 in
theorem RefGood_any (l : List UInt8) (i : Nat) (w : World) (hi : i < l.length) (hl : l.length ≤ 1099511627776) :
    Calls Tryd.prog 53 #[.string ⟨l.toArray⟩, .int .i64 i] w fun e w' => e = .returned (.bool (goodB (l.drop i))) ∧ w = w' := by
  have c1 := RefRune_any l i w hi hl
  have hp := decode_pos (l.drop i) (by intro h; have := congrArg List.length h; rw [List.length_drop] at this; simp at this; omega)
  unfold decV at c1
  unfold goodB
  generalize decodeL (l.drop i) = d at c1 hp
  obtain ⟨r, n⟩ := d
  simp only at c1 hp
  obtain ⟨hp1, hp2⟩ := hp
  obtain ⟨G, hG⟩ : ∃ G, (!decide (r = 65533 ∧ n = 1)) = G := ⟨_, rfl⟩
  simp only [hG]
  have HG := Lib.hid hG
  clear hG hp2
  by_cases h1 : 1 < n
  · have e1 : decide ((1 : Int) < (n : Int)) = true := decide_eq_true (by omega)
    go_enter Tryd.func53, Tryd.ntmps53
    go_wp2_with fail
    refine c1.mono ?_
    rintro e w' ⟨rfl, rfl⟩
    go_wp2_with fail
    go_ret
    refine ⟨ret_bool ?_, rfl⟩
    rw [← HG.out]
    simp
    omega
  · obtain rfl : n = 1 := by omega
    by_cases h2 : r = 65533
    · subst h2
      go_enter Tryd.func53, Tryd.ntmps53
      go_wp2_with fail
      refine c1.mono ?_
      rintro e w' ⟨rfl, rfl⟩
      go_wp2_with fail
      go_ret
      refine ⟨ret_bool ?_, rfl⟩
      rw [← HG.out]
      rfl
    · have e2 : ((r : Int) != 65533) = true := by rw [bne_iff_ne]; omega
      go_enter Tryd.func53, Tryd.ntmps53
      go_wp2_with fail
      refine c1.mono ?_
      rintro e w' ⟨rfl, rfl⟩
      go_wp2_with fail
      go_ret
      refine ⟨ret_bool ?_, rfl⟩
      rw [← HG.out]
      simp [h2]

set_option maxHeartbeats 1000000 in
theorem RefText_any (l : List UInt8) (w : World) (hl : l.length ≤ 1099511627776) :
    Calls Tryd.prog 41 #[.string ⟨l.toArray⟩] w fun e w' => e = .returned (.bool (validD l)) ∧ w = w' := by
  obtain ⟨V, hV⟩ : ∃ V, validD l = V := ⟨_, rfl⟩
  rw [hV]
  have HV := Lib.hid hV
  clear hV
  go_enter Tryd.func41, Tryd.ntmps41
  go_wp2_with fail
  go_loop [3] (fun i => ∃ k : Nat, i = .int .i64 k ∧ k ≤ l.length ∧ Hid (validD (l.drop k) = V)) (fun i => l.length - (RowKit.intOf i).toNat)
  case atStart => exact ⟨0, rfl, by omega, Lib.hid (by simpa using HV.out)⟩
  case round =>
    obtain ⟨k, rfl, hk, HK⟩ := hrel
    by_cases hlt : k < l.length
    · have c1 := RefGood_any l k w hlt hl
      have c2 := RefRune_any l k w hlt hl
      have hne : l.drop k ≠ [] := by intro h; have := congrArg List.length h; rw [List.length_drop] at this; simp at this; omega
      have hp := decode_pos (l.drop k) hne
      have hs := HK.out
      rw [validD_step _ hne] at hs
      unfold decV at c2
      unfold goodB at c1
      rw [List.length_drop] at hp
      rw [List.drop_drop] at hs
      generalize decodeL (l.drop k) = d at c1 c2 hp hs
      obtain ⟨r, n⟩ := d
      simp only at c1 c2 hp hs
      obtain ⟨hp1, hp2⟩ := hp
      by_cases hb : r = 65533 ∧ n = 1
      · rw [if_pos hb] at hs
        subst hs
        rw [decide_eq_true hb] at c1
        clear HK c2
        go_wp2_with fail
        refine c1.mono ?_
        rintro e w' ⟨rfl, rfl⟩
        go_wp2_with fail
        go_ret
        exact ⟨rfl, rfl⟩
      · rw [if_neg hb] at hs
        rw [decide_eq_false hb] at c1
        have HS := Lib.hid hs
        clear HK hs hb
        go_wp2_with fail
        refine c1.mono ?_
        rintro e w' ⟨rfl, rfl⟩
        go_wp2_with fail
        refine c2.mono ?_
        rintro e w' ⟨rfl, rfl⟩
        go_wp2_with fail
        go_round
        case rel => exact ⟨k + n, by go_num, by omega, HS⟩
        case measure => simp [RowKit.intOf]; omega
    · have hs := HK.out
      rw [List.drop_of_length_le (by omega)] at hs
      have hs2 : V = true := by rw [← hs]; rfl
      subst hs2
      clear HK hs
      go_wp2_with fail
      go_ret
      exact ⟨rfl, rfl⟩

/-- string([]byte{..}) at a slice that was just made. -/
theorem run_str_new {P : Program} (w : World) (src dst e : TypeId) (ns : List Int) (cs : Array Value) (n g : Nat) (hcs : cs = (ns.map (Value.int .u8)).toArray) (hn : n = ns.length) (hg : w.heap.size = g)
    (hs : P.underlying src = some (.slice e)) (he : P.underlying e = some (.int .u8)) (hd : P.underlying dst = some .string) :
    (convert src dst (.slice (some ⟨g, 0, none⟩) n n)).run P (w.alloc (.cells cs e)) = .ok (.string ⟨(ns.map fun n => UInt8.ofNat n.toNat).toArray⟩) (w.alloc (.cells cs e)) := by
  subst hcs
  subst hn
  subst hg
  rw [run_convert_bytes_string _ src dst e _ _ _ hs he hd]
  have hl := run_loadCells_list (P := P) (w.alloc (.cells (ns.map (Value.int .u8)).toArray e)) ⟨w.heap.size, 0, none⟩ (ns.map (Value.int .u8)) (by
    intro j v hj
    rw [Addr.add_lit]
    have : ((ns.map (Value.int .u8)).toArray)[0 + j]? = some v := by simpa using hj
    simpa using this)
  rw [List.length_map] at hl
  rw [run_bytesToString _ _ _ _ ns hl]
  congr 2
  have : ∀ (ns : List Int) (s : ByteArray), ns.foldl (fun r n => r.push (UInt8.ofNat n.toNat)) s = ⟨(s.data.toList ++ ns.map fun n => UInt8.ofNat n.toNat).toArray⟩ := by
    intro ns
    induction ns with
    | nil => intro s; cases s; simp
    | cons n ns ih => intro s; rw [List.foldl_cons, ih]; simp [ByteArray.push]
  rw [this]
  simp

set_option maxHeartbeats 2000000 in
theorem RefPutRune_any (r : Int) (w : World) (h0 : -2147483648 ≤ r) (h1 : r ≤ 2147483647) :
    Calls Tryd.prog 43 #[.int .i32 r] w fun e w' => e = .returned (.tuple #[.string ⟨(putR r).toArray⟩, .int .i64 (if Lib.validRune r then 0 else 10)]) ∧ Below w.heap.size w w' := by
  unfold putR
  by_cases hv : Lib.validRune r = true
  · have hb := validRune_bounds r hv
    simp only [hv, if_true]
    have q0 : 0 ≤ r := by omega
    have q1 : r ≤ 1114111 := by omega
    have q2 : r < 55296 ∨ 57343 < r := by omega
    have d0 : decide (r < 0) = false := decide_eq_false (by omega)
    have d1 : decide (1114111 < r) = false := decide_eq_false (by omega)
    have d2 : (decide (55296 ≤ r) = false) ∨ (decide (55296 ≤ r) = true ∧ decide (r ≤ 57343) = false) := by simp only [decide_eq_true_eq, decide_eq_false_iff_not]; omega
    rcases d2 with d2 | ⟨d2, d3⟩
    · clear hb
      have k0 : r < 55296 := by have := of_decide_eq_false d2; omega
      by_cases k1 : r < 128
      · have k1b : r < 128 := k1
        have e1 : encR r = [r].map fun n => UInt8.ofNat n.toNat := by
          rw [encR_one r hv k1]
          simp only [List.map_cons, List.map_nil]
        have hcv := run_str_new (P := Tryd.prog) w 50 9 5 [r] #[.int .u8 (r)] 1 w.heap.size rfl rfl rfl Tryd.underlying50 Tryd.underlying5 Tryd.underlying9
        rw [← e1] at hcv
        generalize encR r = er at hcv
        clear e1
        go_enter Tryd.func43, Tryd.ntmps43
        go_wp2_with fail
        go_ret2
        exact ⟨rfl, (Below.refl _ _).alloc (Nat.le_refl _) _⟩
      · by_cases k2 : r < 2048
        · have k1b : 128 ≤ r := by omega
          have e1 : encR r = [192 + r / 64, 128 + r % 64].map fun n => UInt8.ofNat n.toNat := by
            rw [encR_two r hv k1b k2]
            simp only [List.map_cons, List.map_nil]
            rw [show (192 + r / 64).toNat = 192 + r.toNat / 64 by omega, show (128 + r % 64).toNat = 128 + r.toNat % 64 by omega]
          have hcv := run_str_new (P := Tryd.prog) w 50 9 5 [192 + r / 64, 128 + r % 64] #[.int .u8 (192 + r / 64), .int .u8 (128 + r % 64)] 2 w.heap.size rfl rfl rfl Tryd.underlying50 Tryd.underlying5 Tryd.underlying9
          rw [← e1] at hcv
          generalize encR r = er at hcv
          clear e1
          go_enter Tryd.func43, Tryd.ntmps43
          go_wp2_with fail
          go_ret2
          exact ⟨rfl, (Below.refl _ _).alloc (Nat.le_refl _) _⟩
        · have k2b : 2048 ≤ r := by omega
          have k3 : r < 65536 := by omega
          have e1 : encR r = [224 + r / 4096, 128 + r / 64 % 64, 128 + r % 64].map fun n => UInt8.ofNat n.toNat := by
            rw [encR_three r hv k2b k3]
            simp only [List.map_cons, List.map_nil]
            rw [show (224 + r / 4096).toNat = 224 + r.toNat / 4096 by omega, show (128 + r / 64 % 64).toNat = 128 + r.toNat / 64 % 64 by omega, show (128 + r % 64).toNat = 128 + r.toNat % 64 by omega]
          have hcv := run_str_new (P := Tryd.prog) w 50 9 5 [224 + r / 4096, 128 + r / 64 % 64, 128 + r % 64] #[.int .u8 (224 + r / 4096), .int .u8 (128 + r / 64 % 64), .int .u8 (128 + r % 64)] 3 w.heap.size rfl rfl rfl Tryd.underlying50 Tryd.underlying5 Tryd.underlying9
          rw [← e1] at hcv
          generalize encR r = er at hcv
          clear e1
          go_enter Tryd.func43, Tryd.ntmps43
          go_wp2_with fail
          go_ret2
          exact ⟨rfl, (Below.refl _ _).alloc (Nat.le_refl _) _⟩
    · clear hb
      have k0 : 57343 < r := by have := of_decide_eq_false d3; omega
      by_cases k3 : r < 65536
      · have k2b : 2048 ≤ r := by omega
        have e1 : encR r = [224 + r / 4096, 128 + r / 64 % 64, 128 + r % 64].map fun n => UInt8.ofNat n.toNat := by
          rw [encR_three r hv k2b k3]
          simp only [List.map_cons, List.map_nil]
          rw [show (224 + r / 4096).toNat = 224 + r.toNat / 4096 by omega, show (128 + r / 64 % 64).toNat = 128 + r.toNat / 64 % 64 by omega, show (128 + r % 64).toNat = 128 + r.toNat % 64 by omega]
        have hcv := run_str_new (P := Tryd.prog) w 50 9 5 [224 + r / 4096, 128 + r / 64 % 64, 128 + r % 64] #[.int .u8 (224 + r / 4096), .int .u8 (128 + r / 64 % 64), .int .u8 (128 + r % 64)] 3 w.heap.size rfl rfl rfl Tryd.underlying50 Tryd.underlying5 Tryd.underlying9
        rw [← e1] at hcv
        generalize encR r = er at hcv
        clear e1
        go_enter Tryd.func43, Tryd.ntmps43
        go_wp2_with fail
        go_ret2
        exact ⟨rfl, (Below.refl _ _).alloc (Nat.le_refl _) _⟩
      · have k3b : 65536 ≤ r := by omega
        have e1 : encR r = [240 + r / 262144, 128 + r / 4096 % 64, 128 + r / 64 % 64, 128 + r % 64].map fun n => UInt8.ofNat n.toNat := by
          rw [encR_four r hv k3b]
          simp only [List.map_cons, List.map_nil]
          rw [show (240 + r / 262144).toNat = 240 + r.toNat / 262144 by omega, show (128 + r / 4096 % 64).toNat = 128 + r.toNat / 4096 % 64 by omega, show (128 + r / 64 % 64).toNat = 128 + r.toNat / 64 % 64 by omega, show (128 + r % 64).toNat = 128 + r.toNat % 64 by omega]
        have hcv := run_str_new (P := Tryd.prog) w 50 9 5 [240 + r / 262144, 128 + r / 4096 % 64, 128 + r / 64 % 64, 128 + r % 64] #[.int .u8 (240 + r / 262144), .int .u8 (128 + r / 4096 % 64), .int .u8 (128 + r / 64 % 64), .int .u8 (128 + r % 64)] 4 w.heap.size rfl rfl rfl Tryd.underlying50 Tryd.underlying5 Tryd.underlying9
        rw [← e1] at hcv
        generalize encR r = er at hcv
        clear e1
        go_enter Tryd.func43, Tryd.ntmps43
        go_wp2_with fail
        go_ret2
        exact ⟨rfl, (Below.refl _ _).alloc (Nat.le_refl _) _⟩
  · have hb : r < 0 ∨ 1114111 < r ∨ (55296 ≤ r ∧ r ≤ 57343) := by simp [Lib.validRune] at hv; omega
    simp only [hv, Bool.false_eq_true, if_false]
    rcases hb with hb | hb | ⟨hb, hb2⟩
    all_goals
      go_enter Tryd.func43, Tryd.ntmps43
      go_wp2_with fail
      go_ret2
      exact ⟨rfl, Below.refl _ _⟩
end Go.Proofs.YtlbfmapbpbpipaaDoor
