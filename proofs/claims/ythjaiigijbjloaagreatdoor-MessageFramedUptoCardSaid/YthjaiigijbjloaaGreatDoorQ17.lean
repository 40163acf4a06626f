/- OcA, OcB. -/
import Derived.Test.YthjaiigijbjloaaGreatDoorQ6
namespace Go.Proofs.YthjaiigijbjloaaGreatDoor
open Go.RowKit Go.Lib
set_option maxRecDepth 100000 in
set_option maxHeartbeats 2000000 in
theorem Put_1 (v : Nat) (hv : v < 256) (w : World) :
  Calls Tryz.prog 159 #[.int .i64 (v : Int), .int .i64 1] w fun e w' => e = .returned (.tuple #[.string ⟨#[UInt8.ofNat v]⟩, .int .i64 0]) ∧ Below w.heap.size w w' := by
 obtain ⟨i0, hi0, hz0, hz1, hz2⟩ := info_parts Tryz.infoByte
 have g0 : decide ((v : Int) < 0) = false := decide_eq_false (by omega)
 have g0' : (v : Int) / 256 = 0 := by omega
 have g1 : ((v : Int) / 256 != 0) = false := by rw [g0']; rfl
 clear g0' hv
 have g2 : (v : Int) >>> (8 : Nat) = (v : Int) / 256 := by rw [Int.shiftRight_eq_div_pow]; rfl
 go_enter Tryz.func159, Tryz.ntmps159
 go_wp2_with (refine wpList_make_full _ rfl (.tmp 25) (.tmp 25) 39 rfl w.heap.size 5 i0 (.int .u8 0) 1 Tryz.underlying39 hi0 hz0 hz1 .i64 .i64 1 1 1 rfl rfl rfl rfl (by rw [hz2]; omega) (by unfold maxLen; omega) (Nat.le_refl _) ?_; intro w2 ho2 hg2)
 have hmc : (madeCells (Value.int .u8 0).cells (1 * 1)).toList = [.int .u8 0] := by kernel_rfl
 rw [hmc] at ho2
 clear hmc
 have hb2 : Below w.heap.size w w2 := (Below.refl w.heap.size w).grown hg2 (Nat.le_refl _) (fun b hb => by cases hb)
 obtain ⟨c0, z0⟩ := own_cell (i := 0) (x := .int .u8 0) ho2 rfl
 have ho3 := own_set (i := 0) (x := .int .u8 ((v : Int) % 256)) ho2 (by simp)
 have hcv := run_str_own (P := Tryz.prog) _ 39 9 5 w.heap.size _ [UInt8.ofNat v] Tryz.underlying39 Tryz.underlying5 Tryz.underlying9 (by rw [show bV [UInt8.ofNat v] = [.int .u8 ((v : Int) % 256)] by simp [bV, UInt8.toNat_ofNat']]; exact ho3)
 clear ho2 ho3 hg2 hi0 hz0 hz1 hz2
 refine wp_loop_rounds 2 ?_
 rw [rounds_succ]
 go_wp2_with fail
 rw [rounds_succ]
 go_wp2_with fail
 refine bodyPost_ret (v := .tuple #[.string ⟨#[UInt8.ofNat v]⟩, .int .i64 0]) ?_ rfl ⟨rfl, (hb2.setCell (p := ⟨w.heap.size, 0, none⟩) (Nat.le_refl _) _)⟩
 simp [results, Tryz.f159]
set_option maxRecDepth 100000 in
set_option maxHeartbeats 2000000 in
theorem Put_2 (v : Nat) (hv : v < 65536) (w : World) :
  Calls Tryz.prog 159 #[.int .i64 (v : Int), .int .i64 2] w fun e w' => e = .returned (.tuple #[.string ⟨#[UInt8.ofNat (v / 256), UInt8.ofNat v]⟩, .int .i64 0]) ∧ Below w.heap.size w w' := by
 obtain ⟨i0, hi0, hz0, hz1, hz2⟩ := info_parts Tryz.infoByte
 have g0 : decide ((v : Int) < 0) = false := decide_eq_false (by omega)
 have g0' : (v : Int) / 65536 = 0 := by omega
 have g1 : ((v : Int) / 65536 != 0) = false := by rw [g0']; rfl
 clear g0' hv
 have g2 : (v : Int) >>> (16 : Nat) = (v : Int) / 65536 := by rw [Int.shiftRight_eq_div_pow]; rfl
 go_enter Tryz.func159, Tryz.ntmps159
 go_wp2_with (refine wpList_make_full _ rfl (.tmp 25) (.tmp 25) 39 rfl w.heap.size 5 i0 (.int .u8 0) 1 Tryz.underlying39 hi0 hz0 hz1 .i64 .i64 2 2 2 rfl rfl rfl rfl (by rw [hz2]; omega) (by unfold maxLen; omega) (Nat.le_refl _) ?_; intro w2 ho2 hg2)
 have hmc : (madeCells (Value.int .u8 0).cells (2 * 1)).toList = [.int .u8 0, .int .u8 0] := by kernel_rfl
 rw [hmc] at ho2
 clear hmc
 have hb2 : Below w.heap.size w w2 := (Below.refl w.heap.size w).grown hg2 (Nat.le_refl _) (fun b hb => by cases hb)
 obtain ⟨c0, z0⟩ := own_cell (i := 1) (x := .int .u8 0) ho2 rfl
 have ho3 := own_set (i := 1) (x := .int .u8 ((v : Int) % 256)) ho2 (by simp)
 obtain ⟨c1, z1⟩ := own_cell (i := 0) (x := .int .u8 0) ho3 rfl
 have ho4 := own_set (i := 0) (x := .int .u8 ((v : Int) / 256 % 256)) ho3 (by simp)
 have hcv := run_str_own (P := Tryz.prog) _ 39 9 5 w.heap.size _ [UInt8.ofNat (v / 256), UInt8.ofNat v] Tryz.underlying39 Tryz.underlying5 Tryz.underlying9 (by rw [show bV [UInt8.ofNat (v / 256), UInt8.ofNat v] = [.int .u8 ((v : Int) / 256 % 256), .int .u8 ((v : Int) % 256)] by simp [bV, UInt8.toNat_ofNat']]; exact ho4)
 clear ho2 ho3 ho4 hg2 hi0 hz0 hz1 hz2
 refine wp_loop_rounds 3 ?_
 rw [rounds_succ]
 go_wp2_with fail
 rw [rounds_succ]
 go_wp2_with fail
 rw [rounds_succ]
 go_wp2_with fail
 refine bodyPost_ret (v := .tuple #[.string ⟨#[UInt8.ofNat (v / 256), UInt8.ofNat v]⟩, .int .i64 0]) ?_ rfl ⟨rfl, ((hb2.setCell (p := ⟨w.heap.size, 1, none⟩) (Nat.le_refl _) _).setCell (p := ⟨w.heap.size, 0, none⟩) (Nat.le_refl _) _)⟩
 simp [results, Tryz.f159]
set_option maxRecDepth 100000 in
set_option maxHeartbeats 2000000 in
theorem Put_3 (v : Nat) (hv : v < 16777216) (w : World) :
  Calls Tryz.prog 159 #[.int .i64 (v : Int), .int .i64 3] w fun e w' => e = .returned (.tuple #[.string ⟨#[UInt8.ofNat (v / 65536), UInt8.ofNat (v / 256), UInt8.ofNat v]⟩, .int .i64 0]) ∧ Below w.heap.size w w' := by
 obtain ⟨i0, hi0, hz0, hz1, hz2⟩ := info_parts Tryz.infoByte
 have g0 : decide ((v : Int) < 0) = false := decide_eq_false (by omega)
 have g0' : (v : Int) / 16777216 = 0 := by omega
 have g1 : ((v : Int) / 16777216 != 0) = false := by rw [g0']; rfl
 clear g0' hv
 have g2 : (v : Int) >>> (24 : Nat) = (v : Int) / 16777216 := by rw [Int.shiftRight_eq_div_pow]; rfl
 go_enter Tryz.func159, Tryz.ntmps159
 go_wp2_with (refine wpList_make_full _ rfl (.tmp 25) (.tmp 25) 39 rfl w.heap.size 5 i0 (.int .u8 0) 1 Tryz.underlying39 hi0 hz0 hz1 .i64 .i64 3 3 3 rfl rfl rfl rfl (by rw [hz2]; omega) (by unfold maxLen; omega) (Nat.le_refl _) ?_; intro w2 ho2 hg2)
 have hmc : (madeCells (Value.int .u8 0).cells (3 * 1)).toList = [.int .u8 0, .int .u8 0, .int .u8 0] := by kernel_rfl
 rw [hmc] at ho2
 clear hmc
 have hb2 : Below w.heap.size w w2 := (Below.refl w.heap.size w).grown hg2 (Nat.le_refl _) (fun b hb => by cases hb)
 obtain ⟨c0, z0⟩ := own_cell (i := 2) (x := .int .u8 0) ho2 rfl
 have ho3 := own_set (i := 2) (x := .int .u8 ((v : Int) % 256)) ho2 (by simp)
 obtain ⟨c1, z1⟩ := own_cell (i := 1) (x := .int .u8 0) ho3 rfl
 have ho4 := own_set (i := 1) (x := .int .u8 ((v : Int) / 256 % 256)) ho3 (by simp)
 obtain ⟨c2, z2⟩ := own_cell (i := 0) (x := .int .u8 0) ho4 rfl
 have ho5 := own_set (i := 0) (x := .int .u8 ((v : Int) / 65536 % 256)) ho4 (by simp)
 have hcv := run_str_own (P := Tryz.prog) _ 39 9 5 w.heap.size _ [UInt8.ofNat (v / 65536), UInt8.ofNat (v / 256), UInt8.ofNat v] Tryz.underlying39 Tryz.underlying5 Tryz.underlying9 (by rw [show bV [UInt8.ofNat (v / 65536), UInt8.ofNat (v / 256), UInt8.ofNat v] = [.int .u8 ((v : Int) / 65536 % 256), .int .u8 ((v : Int) / 256 % 256), .int .u8 ((v : Int) % 256)] by simp [bV, UInt8.toNat_ofNat']]; exact ho5)
 clear ho2 ho3 ho4 ho5 hg2 hi0 hz0 hz1 hz2
 refine wp_loop_rounds 4 ?_
 rw [rounds_succ]
 go_wp2_with fail
 rw [rounds_succ]
 go_wp2_with fail
 rw [rounds_succ]
 go_wp2_with fail
 rw [rounds_succ]
 go_wp2_with fail
 refine bodyPost_ret (v := .tuple #[.string ⟨#[UInt8.ofNat (v / 65536), UInt8.ofNat (v / 256), UInt8.ofNat v]⟩, .int .i64 0]) ?_ rfl ⟨rfl, (((hb2.setCell (p := ⟨w.heap.size, 2, none⟩) (Nat.le_refl _) _).setCell (p := ⟨w.heap.size, 1, none⟩) (Nat.le_refl _) _).setCell (p := ⟨w.heap.size, 0, none⟩) (Nat.le_refl _) _)⟩
 simp [results, Tryz.f159]
set_option maxRecDepth 100000 in
set_option maxHeartbeats 2000000 in
theorem length_1 (n : Nat) (h1 : 128 ≤ n) (h2 : n < 256) (w : World) : Calls Tryz.prog 109 #[.int .i64 (n : Int)] w fun e w' => e = .returned (.string ⟨(lenB n).toArray⟩) ∧ Below w.heap.size w w' := by
 have hl : (⟨(lenB n).toArray⟩ : ByteArray) = ⟨#[129]⟩ ++ ⟨#[UInt8.ofNat n]⟩ := by
  unfold lenB
  rw [if_neg (by omega)]; rw [if_pos (by omega)]
  rfl
 rw [hl]
 have g1 : decide ((n : Int) < 128) = false := decide_eq_false (by omega)
 have t1' : (n : Int) / 256 = 0 := by omega
 have t1 : ((n : Int) / 256 != 0) = false := by rw [t1']; rfl
 clear t1'
 have kp := Put_1 n h2 w
 clear hl h1 h2
 go_enter Tryz.func109, Tryz.ntmps109
 go_wp2_with fail
 refine wp_loop_rounds 1 ?_
 rw [rounds_succ]
 go_wp2_with fail
 refine Calls.mono kp ?_
 rintro e w2 ⟨rfl, b2⟩
 clear kp
 have hcv : (convert 39 9 (.slice (some ⟨w2.heap.size, 0, none⟩) 1 1)).run Tryz.prog (w2.alloc (.cells #[.int .u8 129] 5)) = .ok (.string ⟨#[129]⟩) (w2.alloc (.cells #[.int .u8 129] 5)) :=
  run_str_cells _ _ _ 5 _ 1 [129] Tryz.underlying39 Tryz.underlying5 Tryz.underlying9 (by rw [show bV [129] = [.int .u8 129] by rfl]; exact World.news_of_block (alloc_at _ _ _ rfl))
 have b3 : Below w.heap.size w (w2.alloc (.cells #[.int .u8 129] 5)) := b2.alloc b2.size _
 go_wp2_with fail
 go_ret
 exact ⟨rfl, b3⟩
set_option maxRecDepth 100000 in
set_option maxHeartbeats 2000000 in
theorem length_2 (n : Nat) (h1 : 256 ≤ n) (h2 : n < 65536) (w : World) : Calls Tryz.prog 109 #[.int .i64 (n : Int)] w fun e w' => e = .returned (.string ⟨(lenB n).toArray⟩) ∧ Below w.heap.size w w' := by
 have hl : (⟨(lenB n).toArray⟩ : ByteArray) = ⟨#[130]⟩ ++ ⟨#[UInt8.ofNat (n / 256), UInt8.ofNat n]⟩ := by
  unfold lenB
  rw [if_neg (by omega)]; rw [if_neg (by omega)]; rw [if_pos (by omega)]
  rfl
 rw [hl]
 have g1 : decide ((n : Int) < 128) = false := decide_eq_false (by omega)
 have t1' : ¬ (n : Int) / 256 = 0 := by omega
 have t1 : ((n : Int) / 256 != 0) = true := by simpa using t1'
 have t2' : (n : Int) / 65536 = 0 := by omega
 have t2 : ((n : Int) / 65536 != 0) = false := by rw [t2']; rfl
 clear t1' t2'
 have kp := Put_2 n h2 w
 clear hl h1 h2
 go_enter Tryz.func109, Tryz.ntmps109
 go_wp2_with fail
 refine wp_loop_rounds 2 ?_
 rw [rounds_succ]
 go_wp2_with fail
 rw [rounds_succ]
 go_wp2_with fail
 refine Calls.mono kp ?_
 rintro e w2 ⟨rfl, b2⟩
 clear kp
 have hcv : (convert 39 9 (.slice (some ⟨w2.heap.size, 0, none⟩) 1 1)).run Tryz.prog (w2.alloc (.cells #[.int .u8 130] 5)) = .ok (.string ⟨#[130]⟩) (w2.alloc (.cells #[.int .u8 130] 5)) :=
  run_str_cells _ _ _ 5 _ 1 [130] Tryz.underlying39 Tryz.underlying5 Tryz.underlying9 (by rw [show bV [130] = [.int .u8 130] by rfl]; exact World.news_of_block (alloc_at _ _ _ rfl))
 have b3 : Below w.heap.size w (w2.alloc (.cells #[.int .u8 130] 5)) := b2.alloc b2.size _
 go_wp2_with fail
 go_ret
 exact ⟨rfl, b3⟩
set_option maxRecDepth 100000 in
set_option maxHeartbeats 2000000 in
theorem length_3 (n : Nat) (h1 : 65536 ≤ n) (h2 : n < 16777216) (w : World) : Calls Tryz.prog 109 #[.int .i64 (n : Int)] w fun e w' => e = .returned (.string ⟨(lenB n).toArray⟩) ∧ Below w.heap.size w w' := by
 have hl : (⟨(lenB n).toArray⟩ : ByteArray) = ⟨#[131]⟩ ++ ⟨#[UInt8.ofNat (n / 65536), UInt8.ofNat (n / 256), UInt8.ofNat n]⟩ := by
  unfold lenB
  rw [if_neg (by omega)]; rw [if_neg (by omega)]; rw [if_neg (by omega)]
  rfl
 rw [hl]
 have g1 : decide ((n : Int) < 128) = false := decide_eq_false (by omega)
 have t1' : ¬ (n : Int) / 256 = 0 := by omega
 have t1 : ((n : Int) / 256 != 0) = true := by simpa using t1'
 have t2' : ¬ (n : Int) / 65536 = 0 := by omega
 have t2 : ((n : Int) / 65536 != 0) = true := by simpa using t2'
 have t3' : (n : Int) / 16777216 = 0 := by omega
 have t3 : ((n : Int) / 16777216 != 0) = false := by rw [t3']; rfl
 clear t1' t2' t3'
 have kp := Put_3 n h2 w
 clear hl h1 h2
 go_enter Tryz.func109, Tryz.ntmps109
 go_wp2_with fail
 refine wp_loop_rounds 3 ?_
 rw [rounds_succ]
 go_wp2_with fail
 rw [rounds_succ]
 go_wp2_with fail
 rw [rounds_succ]
 go_wp2_with fail
 refine Calls.mono kp ?_
 rintro e w2 ⟨rfl, b2⟩
 clear kp
 have hcv : (convert 39 9 (.slice (some ⟨w2.heap.size, 0, none⟩) 1 1)).run Tryz.prog (w2.alloc (.cells #[.int .u8 131] 5)) = .ok (.string ⟨#[131]⟩) (w2.alloc (.cells #[.int .u8 131] 5)) :=
  run_str_cells _ _ _ 5 _ 1 [131] Tryz.underlying39 Tryz.underlying5 Tryz.underlying9 (by rw [show bV [131] = [.int .u8 131] by rfl]; exact World.news_of_block (alloc_at _ _ _ rfl))
 have b3 : Below w.heap.size w (w2.alloc (.cells #[.int .u8 131] 5)) := b2.alloc b2.size _
 go_wp2_with fail
 go_ret
 exact ⟨rfl, b3⟩
theorem length_any : LenOk 65537 := by
 intro n hn w
 by_cases h1 : n < 128
 ·exact length_short n (by omega) w
 ·by_cases h2 : n < 256
  ·exact length_1 n (by omega) h2 w
  ·by_cases h3 : n < 65536
   ·exact length_2 n (by omega) h3 w
   ·exact length_3 n (by omega) (by omega) w
def sgB (v : Nat) : List UInt8 :=
 if v < 128 then [UInt8.ofNat v] else if v < 32768 then [UInt8.ofNat (v / 256), UInt8.ofNat v] else if v < 8388608 then [UInt8.ofNat (v / 65536), UInt8.ofNat (v / 256), UInt8.ofNat v] else [UInt8.ofNat (v / 16777216), UInt8.ofNat (v / 65536), UInt8.ofNat (v / 256), UInt8.ofNat v]
set_option maxRecDepth 100000 in
set_option maxHeartbeats 4000000 in
theorem PutSigned_2 (v : Nat) (hlo : 128 ≤ v) (hv : v < 32768) (w : World) :
  Calls Tryz.prog 113 #[.int .i64 (v : Int)] w fun e w' => e = .returned (.string ⟨#[UInt8.ofNat (v / 256), UInt8.ofNat v]⟩) ∧ Below w.heap.size w w' := by
 obtain ⟨i0, hi0, hz0, hz1, hz2⟩ := info_parts Tryz.infoByte
 have u0 : (v : Int) % 18446744073709551616 = (v : Int) := by omega
 have n1 : ((v : Int) != wrap64 ((v : Int) * 72057594037927936) / 72057594037927936) = true := by
  unfold wrap64
  simp only [bne_iff_ne, ne_eq]; omega
 have n2 : ((v : Int) != wrap64 ((v : Int) * 281474976710656) / 281474976710656) = false := by
  unfold wrap64
  simp only [bne_eq_false_iff_eq]; omega
 go_enter Tryz.func113, Tryz.ntmps113
 go_wp2_with fail
 refine wp_loop_rounds 2 ?_
 rw [rounds_succ]
 go_wp2_with (refine wpList_make_full _ rfl (.tmp 23) (.tmp 23) 39 rfl w.heap.size 5 i0 (.int .u8 0) 1 Tryz.underlying39 hi0 hz0 hz1 .i64 .i64 2 2 2 rfl rfl rfl rfl (by rw [hz2]; omega) (by unfold maxLen; omega) (Nat.le_refl _) ?_; intro w2 ho2 hg2)
 rw [rounds_succ]
 go_wp2_with (refine wpList_make_full _ rfl (.tmp 23) (.tmp 23) 39 rfl w.heap.size 5 i0 (.int .u8 0) 1 Tryz.underlying39 hi0 hz0 hz1 .i64 .i64 2 2 2 rfl rfl rfl rfl (by rw [hz2]; omega) (by unfold maxLen; omega) (Nat.le_refl _) ?_; intro w2 ho2 hg2)
 clear hlo hv
 have hmc : (madeCells (Value.int .u8 0).cells (2 * 1)).toList = [.int .u8 0, .int .u8 0] := by kernel_rfl
 rw [hmc] at ho2
 clear hmc
 have hb2 : Below w.heap.size w w2 := (Below.refl w.heap.size w).grown hg2 (Nat.le_refl _) (fun b hb => by cases hb)
 obtain ⟨c0, z0⟩ := own_cell (i := 1) (x := .int .u8 0) ho2 rfl
 have ho3 := own_set (i := 1) (x := .int .u8 ((v : Int) % 256)) ho2 (by simp)
 obtain ⟨c1, z1⟩ := own_cell (i := 0) (x := .int .u8 0) ho3 rfl
 have ho4 := own_set (i := 0) (x := .int .u8 ((v : Int) / 256 % 256)) ho3 (by simp)
 have hcv := run_str_own (P := Tryz.prog) _ 39 9 5 w.heap.size _ [UInt8.ofNat (v / 256), UInt8.ofNat v] Tryz.underlying39 Tryz.underlying5 Tryz.underlying9 (by rw [show bV [UInt8.ofNat (v / 256), UInt8.ofNat v] = [.int .u8 ((v : Int) / 256 % 256), .int .u8 ((v : Int) % 256)] by simp [bV, UInt8.toNat_ofNat']]; exact ho4)
 clear ho2 ho3 ho4 hg2 hi0 hz0 hz1 hz2
 refine wp_loop_rounds 3 ?_
 rw [rounds_succ]
 go_wp2_with fail
 rw [rounds_succ]
 go_wp2_with fail
 rw [rounds_succ]
 go_wp2_with fail
 go_ret
 exact ⟨rfl, ((hb2.setCell (p := ⟨w.heap.size, 1, none⟩) (Nat.le_refl _) _).setCell (p := ⟨w.heap.size, 0, none⟩) (Nat.le_refl _) _)⟩
set_option maxRecDepth 100000 in
set_option maxHeartbeats 4000000 in
theorem PutSigned_3 (v : Nat) (hlo : 32768 ≤ v) (hv : v < 8388608) (w : World) :
  Calls Tryz.prog 113 #[.int .i64 (v : Int)] w fun e w' => e = .returned (.string ⟨#[UInt8.ofNat (v / 65536), UInt8.ofNat (v / 256), UInt8.ofNat v]⟩) ∧ Below w.heap.size w w' := by
 obtain ⟨i0, hi0, hz0, hz1, hz2⟩ := info_parts Tryz.infoByte
 have u0 : (v : Int) % 18446744073709551616 = (v : Int) := by omega
 have n1 : ((v : Int) != wrap64 ((v : Int) * 72057594037927936) / 72057594037927936) = true := by
  unfold wrap64
  simp only [bne_iff_ne, ne_eq]; omega
 have n2 : ((v : Int) != wrap64 ((v : Int) * 281474976710656) / 281474976710656) = true := by
  unfold wrap64
  simp only [bne_iff_ne, ne_eq]; omega
 have n3 : ((v : Int) != wrap64 ((v : Int) * 1099511627776) / 1099511627776) = false := by
  unfold wrap64
  simp only [bne_eq_false_iff_eq]; omega
 go_enter Tryz.func113, Tryz.ntmps113
 go_wp2_with fail
 refine wp_loop_rounds 3 ?_
 rw [rounds_succ]
 go_wp2_with (refine wpList_make_full _ rfl (.tmp 23) (.tmp 23) 39 rfl w.heap.size 5 i0 (.int .u8 0) 1 Tryz.underlying39 hi0 hz0 hz1 .i64 .i64 3 3 3 rfl rfl rfl rfl (by rw [hz2]; omega) (by unfold maxLen; omega) (Nat.le_refl _) ?_; intro w2 ho2 hg2)
 rw [rounds_succ]
 go_wp2_with (refine wpList_make_full _ rfl (.tmp 23) (.tmp 23) 39 rfl w.heap.size 5 i0 (.int .u8 0) 1 Tryz.underlying39 hi0 hz0 hz1 .i64 .i64 3 3 3 rfl rfl rfl rfl (by rw [hz2]; omega) (by unfold maxLen; omega) (Nat.le_refl _) ?_; intro w2 ho2 hg2)
 rw [rounds_succ]
 go_wp2_with (refine wpList_make_full _ rfl (.tmp 23) (.tmp 23) 39 rfl w.heap.size 5 i0 (.int .u8 0) 1 Tryz.underlying39 hi0 hz0 hz1 .i64 .i64 3 3 3 rfl rfl rfl rfl (by rw [hz2]; omega) (by unfold maxLen; omega) (Nat.le_refl _) ?_; intro w2 ho2 hg2)
 clear hlo hv
 have hmc : (madeCells (Value.int .u8 0).cells (3 * 1)).toList = [.int .u8 0, .int .u8 0, .int .u8 0] := by kernel_rfl
 rw [hmc] at ho2
 clear hmc
 have hb2 : Below w.heap.size w w2 := (Below.refl w.heap.size w).grown hg2 (Nat.le_refl _) (fun b hb => by cases hb)
 obtain ⟨c0, z0⟩ := own_cell (i := 2) (x := .int .u8 0) ho2 rfl
 have ho3 := own_set (i := 2) (x := .int .u8 ((v : Int) % 256)) ho2 (by simp)
 obtain ⟨c1, z1⟩ := own_cell (i := 1) (x := .int .u8 0) ho3 rfl
 have ho4 := own_set (i := 1) (x := .int .u8 ((v : Int) / 256 % 256)) ho3 (by simp)
 obtain ⟨c2, z2⟩ := own_cell (i := 0) (x := .int .u8 0) ho4 rfl
 have ho5 := own_set (i := 0) (x := .int .u8 ((v : Int) / 65536 % 256)) ho4 (by simp)
 have hcv := run_str_own (P := Tryz.prog) _ 39 9 5 w.heap.size _ [UInt8.ofNat (v / 65536), UInt8.ofNat (v / 256), UInt8.ofNat v] Tryz.underlying39 Tryz.underlying5 Tryz.underlying9 (by rw [show bV [UInt8.ofNat (v / 65536), UInt8.ofNat (v / 256), UInt8.ofNat v] = [.int .u8 ((v : Int) / 65536 % 256), .int .u8 ((v : Int) / 256 % 256), .int .u8 ((v : Int) % 256)] by simp [bV, UInt8.toNat_ofNat']]; exact ho5)
 clear ho2 ho3 ho4 ho5 hg2 hi0 hz0 hz1 hz2
 refine wp_loop_rounds 4 ?_
 rw [rounds_succ]
 go_wp2_with fail
 rw [rounds_succ]
 go_wp2_with fail
 rw [rounds_succ]
 go_wp2_with fail
 rw [rounds_succ]
 go_wp2_with fail
 go_ret
 exact ⟨rfl, (((hb2.setCell (p := ⟨w.heap.size, 2, none⟩) (Nat.le_refl _) _).setCell (p := ⟨w.heap.size, 1, none⟩) (Nat.le_refl _) _).setCell (p := ⟨w.heap.size, 0, none⟩) (Nat.le_refl _) _)⟩
set_option maxRecDepth 100000 in
set_option maxHeartbeats 4000000 in
theorem PutSigned_4 (v : Nat) (hlo : 8388608 ≤ v) (hv : v < 2147483648) (w : World) :
  Calls Tryz.prog 113 #[.int .i64 (v : Int)] w fun e w' => e = .returned (.string ⟨#[UInt8.ofNat (v / 16777216), UInt8.ofNat (v / 65536), UInt8.ofNat (v / 256), UInt8.ofNat v]⟩) ∧ Below w.heap.size w w' := by
 obtain ⟨i0, hi0, hz0, hz1, hz2⟩ := info_parts Tryz.infoByte
 have u0 : (v : Int) % 18446744073709551616 = (v : Int) := by omega
 have n1 : ((v : Int) != wrap64 ((v : Int) * 72057594037927936) / 72057594037927936) = true := by
  unfold wrap64
  simp only [bne_iff_ne, ne_eq]; omega
 have n2 : ((v : Int) != wrap64 ((v : Int) * 281474976710656) / 281474976710656) = true := by
  unfold wrap64
  simp only [bne_iff_ne, ne_eq]; omega
 have n3 : ((v : Int) != wrap64 ((v : Int) * 1099511627776) / 1099511627776) = true := by
  unfold wrap64
  simp only [bne_iff_ne, ne_eq]; omega
 have n4 : ((v : Int) != wrap64 ((v : Int) * 4294967296) / 4294967296) = false := by
  unfold wrap64
  simp only [bne_eq_false_iff_eq]; omega
 go_enter Tryz.func113, Tryz.ntmps113
 go_wp2_with fail
 refine wp_loop_rounds 4 ?_
 rw [rounds_succ]
 go_wp2_with (refine wpList_make_full _ rfl (.tmp 23) (.tmp 23) 39 rfl w.heap.size 5 i0 (.int .u8 0) 1 Tryz.underlying39 hi0 hz0 hz1 .i64 .i64 4 4 4 rfl rfl rfl rfl (by rw [hz2]; omega) (by unfold maxLen; omega) (Nat.le_refl _) ?_; intro w2 ho2 hg2)
 rw [rounds_succ]
 go_wp2_with (refine wpList_make_full _ rfl (.tmp 23) (.tmp 23) 39 rfl w.heap.size 5 i0 (.int .u8 0) 1 Tryz.underlying39 hi0 hz0 hz1 .i64 .i64 4 4 4 rfl rfl rfl rfl (by rw [hz2]; omega) (by unfold maxLen; omega) (Nat.le_refl _) ?_; intro w2 ho2 hg2)
 rw [rounds_succ]
 go_wp2_with (refine wpList_make_full _ rfl (.tmp 23) (.tmp 23) 39 rfl w.heap.size 5 i0 (.int .u8 0) 1 Tryz.underlying39 hi0 hz0 hz1 .i64 .i64 4 4 4 rfl rfl rfl rfl (by rw [hz2]; omega) (by unfold maxLen; omega) (Nat.le_refl _) ?_; intro w2 ho2 hg2)
 rw [rounds_succ]
 go_wp2_with (refine wpList_make_full _ rfl (.tmp 23) (.tmp 23) 39 rfl w.heap.size 5 i0 (.int .u8 0) 1 Tryz.underlying39 hi0 hz0 hz1 .i64 .i64 4 4 4 rfl rfl rfl rfl (by rw [hz2]; omega) (by unfold maxLen; omega) (Nat.le_refl _) ?_; intro w2 ho2 hg2)
 clear hlo hv
 have hmc : (madeCells (Value.int .u8 0).cells (4 * 1)).toList = [.int .u8 0, .int .u8 0, .int .u8 0, .int .u8 0] := by kernel_rfl
 rw [hmc] at ho2
 clear hmc
 have hb2 : Below w.heap.size w w2 := (Below.refl w.heap.size w).grown hg2 (Nat.le_refl _) (fun b hb => by cases hb)
 obtain ⟨c0, z0⟩ := own_cell (i := 3) (x := .int .u8 0) ho2 rfl
 have ho3 := own_set (i := 3) (x := .int .u8 ((v : Int) % 256)) ho2 (by simp)
 obtain ⟨c1, z1⟩ := own_cell (i := 2) (x := .int .u8 0) ho3 rfl
 have ho4 := own_set (i := 2) (x := .int .u8 ((v : Int) / 256 % 256)) ho3 (by simp)
 obtain ⟨c2, z2⟩ := own_cell (i := 1) (x := .int .u8 0) ho4 rfl
 have ho5 := own_set (i := 1) (x := .int .u8 ((v : Int) / 65536 % 256)) ho4 (by simp)
 obtain ⟨c3, z3⟩ := own_cell (i := 0) (x := .int .u8 0) ho5 rfl
 have ho6 := own_set (i := 0) (x := .int .u8 ((v : Int) / 16777216 % 256)) ho5 (by simp)
 have hcv := run_str_own (P := Tryz.prog) _ 39 9 5 w.heap.size _ [UInt8.ofNat (v / 16777216), UInt8.ofNat (v / 65536), UInt8.ofNat (v / 256), UInt8.ofNat v] Tryz.underlying39 Tryz.underlying5 Tryz.underlying9 (by rw [show bV [UInt8.ofNat (v / 16777216), UInt8.ofNat (v / 65536), UInt8.ofNat (v / 256), UInt8.ofNat v] = [.int .u8 ((v : Int) / 16777216 % 256), .int .u8 ((v : Int) / 65536 % 256), .int .u8 ((v : Int) / 256 % 256), .int .u8 ((v : Int) % 256)] by simp [bV, UInt8.toNat_ofNat']]; exact ho6)
 clear ho2 ho3 ho4 ho5 ho6 hg2 hi0 hz0 hz1 hz2
 refine wp_loop_rounds 5 ?_
 rw [rounds_succ]
 go_wp2_with fail
 rw [rounds_succ]
 go_wp2_with fail
 rw [rounds_succ]
 go_wp2_with fail
 rw [rounds_succ]
 go_wp2_with fail
 rw [rounds_succ]
 go_wp2_with fail
 go_ret
 exact ⟨rfl, ((((hb2.setCell (p := ⟨w.heap.size, 3, none⟩) (Nat.le_refl _) _).setCell (p := ⟨w.heap.size, 2, none⟩) (Nat.le_refl _) _).setCell (p := ⟨w.heap.size, 1, none⟩) (Nat.le_refl _) _).setCell (p := ⟨w.heap.size, 0, none⟩) (Nat.le_refl _) _)⟩
theorem PutSigned_any (v : Nat) (hv : v ≤ 2147483647) (w : World) :
  Calls Tryz.prog 113 #[.int .i64 (v : Int)] w fun e w' => e = .returned (.string ⟨(sgB v).toArray⟩) ∧ Below w.heap.size w w' := by
 unfold sgB
 split
 ·exact PutSigned_small v (by omega) w
 ·split
  ·exact PutSigned_2 v (by omega) (by omega) w
  ·split
   ·exact PutSigned_3 v (by omega) (by omega) w
   ·exact PutSigned_4 v (by omega) (by omega) w
theorem sgB_len (v : Nat) : 1 ≤ (sgB v).length ∧ (sgB v).length ≤ 4 := by
 unfold sgB
 repeat' split
 all_goals simp
set_option maxRecDepth 100000 in
set_option maxHeartbeats 2000000 in
theorem Int_any (t : Int) (v : Nat) (hv : v ≤ 2147483647) (w : World) :
  Calls Tryz.prog 72 #[.int .i64 t, .int .i64 (v : Int)] w fun e w' => e = .returned (.agg (elA (.mk 0 t false (sgB v) []) (.slice none 0 0))) ∧ Below w.heap.size w w' := by
 have hb : Below w.heap.size w (w.alloc (.cells Ze 45)) := (Below.refl _ _).alloc (Nat.le_refl _) _
 have hr : (w.alloc (.cells Ze 45)).heap[w.heap.size]? = some (.cells Ze 45 (0, 0)) := alloc_at _ _ _ rfl
 have k := PutSigned_any v hv (w.alloc (.cells Ze 45))
 obtain ⟨bs, hbs⟩ : ∃ bs, sgB v = bs := ⟨_, rfl⟩
 rw [hbs] at k ⊢
 clear hbs
 go_enter Tryz.func72, Tryz.ntmps72
 go_wp2_with fail
 refine Calls.mono k ?_
 rintro e w1 ⟨rfl, hb1⟩
 have hr1 := (hb1.block _ (gl hr)).trans hr
 have hbb := hb.trans (hb1.mono hb.size)
 have k2 := Str_any t bs w1
 clear k hr hb hb1
 go_wp2_with fail
 refine Calls.mono k2 ?_
 rintro e w2 ⟨rfl, hb2⟩
 have hr2 := (hb2.block _ (gl hr1)).trans hr1
 have hb3 := hbb.trans (hb2.mono hbb.size)
 clear hr1 hb2 hbb k2
 have hq := setRow_heap w2 w.heap.size _ #[.int .i64 0, .int .i64 t, .bool false, .string ⟨bs.toArray⟩, .slice none 0 0] _ _ hr2
 have hb4 := below_row hb3 (g := w.heap.size) (Nat.le_refl _) #[.int .i64 0, .int .i64 t, .bool false, .string ⟨bs.toArray⟩, .slice none 0 0]
 go_wp2_with (refine wpList_storeRow rfl 45 (.tmp 4) (.tmp 8) rfl w.heap.size 45 _ #[.int .i64 0, .int .i64 t, .bool false, .string ⟨bs.toArray⟩, .slice none 0 0] (by rfl) (by rfl) hr2 (by rfl) (by rfl) (by simp [Value.oneCell']) ?_)
 all_goals refine bodyPost_ret (v := .agg #[.int .i64 0, .int .i64 t, .bool false, .string ⟨bs.toArray⟩, .slice none 0 0]) ?_ rfl ⟨rfl, hb4⟩
 all_goals have hr := run_loadVar_row (P := Tryz.prog) (w2.setRow w.heap.size #[.int .i64 0, .int .i64 t, .bool false, .string ⟨bs.toArray⟩, .slice none 0 0]) (w.heap.size) 45 45 #[.int .i64 0, .int .i64 t, .bool false, .string ⟨bs.toArray⟩, .slice none 0 0] (0, 0) _ hq (show Tryz.prog.underlying 45 = _ from Tryz.underlying45) (by rfl) (by rfl)
 all_goals simp [results, Tryz.f72]
 all_goals exact hr
end Go.Proofs.YthjaiigijbjloaaGreatDoor
