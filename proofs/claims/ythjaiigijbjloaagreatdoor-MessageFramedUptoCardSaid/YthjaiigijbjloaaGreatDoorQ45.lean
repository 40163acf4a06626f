/- RdB, RdC. -/
import Derived.Test.YthjaiigijbjloaaGreatDoorQ44
namespace Go.Proofs.YthjaiigijbjloaaGreatDoor
open Go.RowKit Go.Lib
def HeadP (w : World) (b : List UInt8) (e : Ending) (w' : World) : Prop :=
 e = .returned (.tuple #[.int .i64 ((headB b).1 : Int), .int .i64 ((headB b).2.1 : Int), .int .i64 (headB b).2.2]) ∧ ∃ m, w' = w.drewN m
theorem HeadP.of {w : World} {b : List UInt8} {n m : Nat} {c : Int} (h : headB b = (n, m, c)) (k : Nat) : HeadP w b (.returned (.tuple #[.int .i64 (n : Int), .int .i64 (m : Int), .int .i64 c])) (w.drewN k) := by
 unfold HeadP; rw [h]; exact ⟨rfl, k, rfl⟩
set_option maxRecDepth 100000 in
set_option maxHeartbeats 2000000 in
theorem head_nil (w : World) : Calls Tryz.prog 54 #[.string ⟨([] : List UInt8).toArray⟩] w (HeadP w ([])) := by
 have HEQ := hid (show headB [] = (0, 0, 20) from rfl)
 go_enter Tryz.func54, Tryz.ntmps54
 go_wp2_with fail
 refine bodyPost_ret (v := .tuple #[.int .i64 (((0 : Nat) : Int)), .int .i64 (((0 : Nat) : Int)), .int .i64 20]) ?_ rfl (HeadP.of HEQ.out 0)
 simp [results, Tryz.f54]
set_option maxRecDepth 100000 in
set_option maxHeartbeats 2000000 in
theorem head_tag (b0 : UInt8) (r : List UInt8) (hl : r.length ≤ 1000000000) (h0 : 30 < b0.toNat % 32) (w : World) : Calls Tryz.prog 54 #[.string ⟨(b0 :: r : List UInt8).toArray⟩] w (HeadP w (b0 :: r)) := by
 have HEQ := hid (show headB (b0 :: r) = (0, 0, 21) by simp [headB, h0])
 have e0 := str_at (b0 :: r) 0 b0 rfl (by rw [Lib.size_mk]; simp)
 have ha := and31 b0
 obtain ⟨T, hT⟩ : ∃ T, b0.toNat % 32 = T := ⟨_, rfl⟩
 rw [hT] at ha h0
 have g1 : decide ((30 : Int) < (T : Int)) = true := decide_eq_true (by omega)
 have g2 : decide ((T : Int) > 30) = true := decide_eq_true (by omega)
 have gp : (0 : Int) < (r.length : Int) + 1 := by omega
 clear hT
 go_enter Tryz.func54, Tryz.ntmps54
 go_wp2_with fail
 refine bodyPost_ret (v := .tuple #[.int .i64 (((0 : Nat) : Int)), .int .i64 (((0 : Nat) : Int)), .int .i64 21]) ?_ rfl (HeadP.of HEQ.out 0)
 simp [results, Tryz.f54]
set_option maxRecDepth 100000 in
set_option maxHeartbeats 2000000 in
theorem head_one (b0 : UInt8) (h0 : b0.toNat % 32 ≤ 30) (w : World) : Calls Tryz.prog 54 #[.string ⟨([b0] : List UInt8).toArray⟩] w (HeadP w ([b0])) := by
 have HEQ := hid (show headB [b0] = (0, 0, 20) by simp [headB, show ¬ 30 < b0.toNat % 32 by omega])
 have e0 := str_at [b0] 0 b0 rfl (by rw [Lib.size_mk]; simp)
 have ha := and31 b0
 obtain ⟨T, hT⟩ : ∃ T, b0.toNat % 32 = T := ⟨_, rfl⟩
 rw [hT] at ha h0
 have g1 : decide ((30 : Int) < (T : Int)) = false := decide_eq_false (by omega)
 have g2 : decide ((T : Int) > 30) = false := decide_eq_false (by omega)
 clear hT
 go_enter Tryz.func54, Tryz.ntmps54
 go_wp2_with fail
 refine bodyPost_ret (v := .tuple #[.int .i64 (((0 : Nat) : Int)), .int .i64 (((0 : Nat) : Int)), .int .i64 20]) ?_ rfl (HeadP.of HEQ.out 0)
 simp [results, Tryz.f54]
set_option maxRecDepth 100000 in
set_option maxHeartbeats 2000000 in
theorem head_len0 (b0 b1 : UInt8) (r : List UInt8) (hl : r.length ≤ 1000000000) (h0 : b0.toNat % 32 ≤ 30) (h1 : 128 ≤ b1.toNat) (hn : b1.toNat = 128) (w : World) : Calls Tryz.prog 54 #[.string ⟨(b0 :: b1 :: r : List UInt8).toArray⟩] w (HeadP w (b0 :: b1 :: r)) := by
 have HEQ0 : headB (b0 :: b1 :: r) = (0, 0, 22) := by simp [headB, show ¬ 30 < b0.toNat % 32 by omega, show ¬ b1.toNat < 128 by omega, hn]
 have e0 := str_at (b0 :: b1 :: r) 0 b0 rfl (by rw [Lib.size_mk]; simp)
 have e1 := str_at (b0 :: b1 :: r) 1 b1 rfl (by rw [Lib.size_mk]; simp)
 have ha := and31 b0
 obtain ⟨T, hT⟩ : ∃ T, b0.toNat % 32 = T := ⟨_, rfl⟩
 rw [hT] at ha h0
 have g1 : decide ((30 : Int) < (T : Int)) = false := decide_eq_false (by omega)
 have g2 : decide ((T : Int) > 30) = false := decide_eq_false (by omega)
 have g3 : ((r.length : Int) + 1 + 1 == 1) = false := by simp; omega
 have gp0 : (0 : Int) < (r.length : Int) + 1 + 1 := by omega
 have gp1 : (1 : Int) < (r.length : Int) + 1 + 1 := by omega
 have g4 : decide ((b1.toNat : Int) < 128) = false := decide_eq_false (by omega)
 obtain ⟨N, hN⟩ : ∃ N, b1.toNat - 128 = N := ⟨_, rfl⟩
 have hb1 : (b1.toNat : Int) = (N : Int) + 128 := by omega
 have hbl := UInt8.toNat_lt b1
 have hw0 : IntKind.i64.wrap (b1.toNat : Int) = (b1.toNat : Int) := by rw [IntKind.wrap_i64]; omega
 have hw1 : IntKind.i64.wrap ((b1.toNat : Int) - 128) = (N : Int) := by rw [IntKind.wrap_i64]; omega
 have hw2 : (b1.toNat : Int) - 128 = (N : Int) := by omega
 have HEQ := hid HEQ0
 have hN0 : N = 0 := by omega
 subst hN0
 clear HEQ0 hT hN
 go_enter Tryz.func54, Tryz.ntmps54
 go_wp2_with fail
 refine bodyPost_ret (v := .tuple #[.int .i64 (((0 : Nat) : Int)), .int .i64 (((0 : Nat) : Int)), .int .i64 22]) ?_ rfl (HeadP.of HEQ.out 0)
 simp [results, Tryz.f54]
set_option maxRecDepth 100000 in
set_option maxHeartbeats 2000000 in
theorem head_len5 (b0 b1 : UInt8) (r : List UInt8) (hl : r.length ≤ 1000000000) (h0 : b0.toNat % 32 ≤ 30) (h1 : 128 ≤ b1.toNat) (hn : 132 < b1.toNat) (w : World) : Calls Tryz.prog 54 #[.string ⟨(b0 :: b1 :: r : List UInt8).toArray⟩] w (HeadP w (b0 :: b1 :: r)) := by
 have HEQ0 : headB (b0 :: b1 :: r) = (0, 0, 22) := by simp [headB, show ¬ 30 < b0.toNat % 32 by omega, show ¬ b1.toNat < 128 by omega, show 4 < b1.toNat - 128 by omega]
 have e0 := str_at (b0 :: b1 :: r) 0 b0 rfl (by rw [Lib.size_mk]; simp)
 have e1 := str_at (b0 :: b1 :: r) 1 b1 rfl (by rw [Lib.size_mk]; simp)
 have ha := and31 b0
 obtain ⟨T, hT⟩ : ∃ T, b0.toNat % 32 = T := ⟨_, rfl⟩
 rw [hT] at ha h0
 have g1 : decide ((30 : Int) < (T : Int)) = false := decide_eq_false (by omega)
 have g2 : decide ((T : Int) > 30) = false := decide_eq_false (by omega)
 have g3 : ((r.length : Int) + 1 + 1 == 1) = false := by simp; omega
 have gp0 : (0 : Int) < (r.length : Int) + 1 + 1 := by omega
 have gp1 : (1 : Int) < (r.length : Int) + 1 + 1 := by omega
 have g4 : decide ((b1.toNat : Int) < 128) = false := decide_eq_false (by omega)
 obtain ⟨N, hN⟩ : ∃ N, b1.toNat - 128 = N := ⟨_, rfl⟩
 have hb1 : (b1.toNat : Int) = (N : Int) + 128 := by omega
 have hbl := UInt8.toNat_lt b1
 have hw0 : IntKind.i64.wrap (b1.toNat : Int) = (b1.toNat : Int) := by rw [IntKind.wrap_i64]; omega
 have hw1 : IntKind.i64.wrap ((b1.toNat : Int) - 128) = (N : Int) := by rw [IntKind.wrap_i64]; omega
 have hw2 : (b1.toNat : Int) - 128 = (N : Int) := by omega
 have HEQ := hid HEQ0
 have k1 : decide ((N : Int) < 1) = false := decide_eq_false (by omega)
 have k2 : decide ((N : Int) > 4) = true := decide_eq_true (by omega)
 have k3 : decide ((4 : Int) < (N : Int)) = true := decide_eq_true (by omega)
 clear HEQ0 hT hN
 go_enter Tryz.func54, Tryz.ntmps54
 go_wp2_with fail
 refine bodyPost_ret (v := .tuple #[.int .i64 (((0 : Nat) : Int)), .int .i64 (((0 : Nat) : Int)), .int .i64 22]) ?_ rfl (HeadP.of HEQ.out 0)
 simp [results, Tryz.f54]
set_option maxRecDepth 100000 in
set_option maxHeartbeats 2000000 in
theorem head_short2 (b0 b1 : UInt8) (r : List UInt8) (hl : r.length ≤ 1000000000) (h0 : b0.toNat % 32 ≤ 30) (h1 : 128 ≤ b1.toNat) (hn : 128 < b1.toNat) (hn4 : b1.toNat ≤ 132) (hs : r.length < b1.toNat - 128) (w : World) : Calls Tryz.prog 54 #[.string ⟨(b0 :: b1 :: r : List UInt8).toArray⟩] w (HeadP w (b0 :: b1 :: r)) := by
 have HEQ0 : headB (b0 :: b1 :: r) = (0, 0, 20) := by simp [headB, show ¬ 30 < b0.toNat % 32 by omega, show ¬ b1.toNat < 128 by omega, show ¬ (b1.toNat - 128 = 0 ∨ 4 < b1.toNat - 128) by omega, hs]
 have e0 := str_at (b0 :: b1 :: r) 0 b0 rfl (by rw [Lib.size_mk]; simp)
 have e1 := str_at (b0 :: b1 :: r) 1 b1 rfl (by rw [Lib.size_mk]; simp)
 have ha := and31 b0
 obtain ⟨T, hT⟩ : ∃ T, b0.toNat % 32 = T := ⟨_, rfl⟩
 rw [hT] at ha h0
 have g1 : decide ((30 : Int) < (T : Int)) = false := decide_eq_false (by omega)
 have g2 : decide ((T : Int) > 30) = false := decide_eq_false (by omega)
 have g3 : ((r.length : Int) + 1 + 1 == 1) = false := by simp; omega
 have gp0 : (0 : Int) < (r.length : Int) + 1 + 1 := by omega
 have gp1 : (1 : Int) < (r.length : Int) + 1 + 1 := by omega
 have g4 : decide ((b1.toNat : Int) < 128) = false := decide_eq_false (by omega)
 obtain ⟨N, hN⟩ : ∃ N, b1.toNat - 128 = N := ⟨_, rfl⟩
 have hb1 : (b1.toNat : Int) = (N : Int) + 128 := by omega
 have hbl := UInt8.toNat_lt b1
 have hw0 : IntKind.i64.wrap (b1.toNat : Int) = (b1.toNat : Int) := by rw [IntKind.wrap_i64]; omega
 have hw1 : IntKind.i64.wrap ((b1.toNat : Int) - 128) = (N : Int) := by rw [IntKind.wrap_i64]; omega
 have hw2 : (b1.toNat : Int) - 128 = (N : Int) := by omega
 have HEQ := hid HEQ0
 have k1 : decide ((N : Int) < 1) = false := decide_eq_false (by omega)
 have k2 : decide ((N : Int) > 4) = false := decide_eq_false (by omega)
 have k3 : decide ((4 : Int) < (N : Int)) = false := decide_eq_false (by omega)
 have hw3 : IntKind.i64.wrap (2 + (N : Int)) = 2 + (N : Int) := by rw [IntKind.wrap_i64]; omega
 have k4 : decide ((r.length : Int) + 1 + 1 < 2 + (N : Int)) = true := decide_eq_true (by omega)
 clear HEQ0 hT hN
 go_enter Tryz.func54, Tryz.ntmps54
 go_wp2_with fail
 refine bodyPost_ret (v := .tuple #[.int .i64 (((0 : Nat) : Int)), .int .i64 (((0 : Nat) : Int)), .int .i64 20]) ?_ rfl (HeadP.of HEQ.out 0)
 simp [results, Tryz.f54]
set_option maxRecDepth 100000 in
set_option maxHeartbeats 2000000 in
theorem head_big (b0 b1 : UInt8) (r : List UInt8) (hl : r.length ≤ 1000000000) (h0 : b0.toNat % 32 ≤ 30) (h1 : 128 ≤ b1.toNat) (hn : 128 < b1.toNat) (hn4 : b1.toNat ≤ 132) (hs : b1.toNat - 128 ≤ r.length) (hs2 : 65536 < 2 + (b1.toNat - 128) + numR (r.take (b1.toNat - 128))) (w : World) : Calls Tryz.prog 54 #[.string ⟨(b0 :: b1 :: r : List UInt8).toArray⟩] w (HeadP w (b0 :: b1 :: r)) := by
 have HEQ0 : headB (b0 :: b1 :: r) = (0, 0, 2) := by simp [headB, show ¬ 30 < b0.toNat % 32 by omega, show ¬ b1.toNat < 128 by omega, show ¬ (b1.toNat - 128 = 0 ∨ 4 < b1.toNat - 128) by omega, show ¬ r.length < b1.toNat - 128 by omega, hs2]
 have e0 := str_at (b0 :: b1 :: r) 0 b0 rfl (by rw [Lib.size_mk]; simp)
 have e1 := str_at (b0 :: b1 :: r) 1 b1 rfl (by rw [Lib.size_mk]; simp)
 have ha := and31 b0
 obtain ⟨T, hT⟩ : ∃ T, b0.toNat % 32 = T := ⟨_, rfl⟩
 rw [hT] at ha h0
 have g1 : decide ((30 : Int) < (T : Int)) = false := decide_eq_false (by omega)
 have g2 : decide ((T : Int) > 30) = false := decide_eq_false (by omega)
 have g3 : ((r.length : Int) + 1 + 1 == 1) = false := by simp; omega
 have gp0 : (0 : Int) < (r.length : Int) + 1 + 1 := by omega
 have gp1 : (1 : Int) < (r.length : Int) + 1 + 1 := by omega
 have g4 : decide ((b1.toNat : Int) < 128) = false := decide_eq_false (by omega)
 obtain ⟨N, hN⟩ : ∃ N, b1.toNat - 128 = N := ⟨_, rfl⟩
 have hb1 : (b1.toNat : Int) = (N : Int) + 128 := by omega
 have hbl := UInt8.toNat_lt b1
 have hw0 : IntKind.i64.wrap (b1.toNat : Int) = (b1.toNat : Int) := by rw [IntKind.wrap_i64]; omega
 have hw1 : IntKind.i64.wrap ((b1.toNat : Int) - 128) = (N : Int) := by rw [IntKind.wrap_i64]; omega
 have hw2 : (b1.toNat : Int) - 128 = (N : Int) := by omega
 rw [hN] at hs2 hs
 have k1 : decide ((N : Int) < 1) = false := decide_eq_false (by omega)
 have k2 : decide ((N : Int) > 4) = false := decide_eq_false (by omega)
 have k3 : decide ((4 : Int) < (N : Int)) = false := decide_eq_false (by omega)
 have hw3 : IntKind.i64.wrap (2 + (N : Int)) = 2 + (N : Int) := by rw [IntKind.wrap_i64]; omega
 have k4 : decide ((r.length : Int) + 1 + 1 < 2 + (N : Int)) = false := decide_eq_false (by omega)
 have ex1 : (⟨(b0 :: b1 :: r).toArray⟩ : ByteArray).extract 2 (2 + N) = ⟨(r.take N).toArray⟩ := by rw [Lib.extract_eq]; simp
 have kg := Get_any (r.take N) (by simp; omega) (by simp; omega) w
 have hw4 : (0 : Int) ≤ 2 + (N : Int) := by omega
 have hw5 : ((2 : Int) + (N : Int)).toNat = 2 + N := by omega
 have hw6 : (2 : Int) + (N : Int) ≤ (r.length : Int) + 1 + 1 := by omega
 have hv := numB_lt N (r.take N) (by simp; omega)
 have hv2 : numR (r.take N) < 256 ^ 4 := Nat.lt_of_lt_of_le hv (Nat.pow_le_pow_right (by omega) (by omega))
 obtain ⟨V, hV⟩ : ∃ V, numR (r.take N) = V := ⟨_, rfl⟩
 rw [hV] at kg hv2 hs2
 have hw7 : IntKind.i64.wrap (2 + (N : Int) + (V : Int)) = 2 + (N : Int) + (V : Int) := by rw [IntKind.wrap_i64]; omega
 have k5 : decide (2 + (N : Int) + (V : Int) > 65536) = true := decide_eq_true (by omega)
 have k6 : decide (65536 < 2 + (N : Int) + (V : Int)) = true := decide_eq_true (by omega)
 have HEQ := hid HEQ0
 clear HEQ0 hT hN hV hv
 go_enter Tryz.func54, Tryz.ntmps54
 go_wp2_with fail
 try rw [ex1]
 refine Calls.mono kg ?_
 rintro e w1 ⟨rfl, hw1'⟩
 rw [hw1']
 clear hw1' kg
 go_wp2_with fail
 refine bodyPost_ret (v := .tuple #[.int .i64 (((0 : Nat) : Int)), .int .i64 (((0 : Nat) : Int)), .int .i64 2]) ?_ rfl (HeadP.of HEQ.out 0)
 simp [results, Tryz.f54]
set_option maxRecDepth 100000 in
set_option maxHeartbeats 2000000 in
theorem head_long (b0 b1 : UInt8) (r : List UInt8) (hl : r.length ≤ 1000000000) (h0 : b0.toNat % 32 ≤ 30) (h1 : 128 ≤ b1.toNat) (hn : 128 < b1.toNat) (hn4 : b1.toNat ≤ 132) (hs : b1.toNat - 128 ≤ r.length) (hs2 : 2 + (b1.toNat - 128) + numR (r.take (b1.toNat - 128)) ≤ 65536) (w : World) : Calls Tryz.prog 54 #[.string ⟨(b0 :: b1 :: r : List UInt8).toArray⟩] w (HeadP w (b0 :: b1 :: r)) := by
 have HEQ0 : headB (b0 :: b1 :: r) = (2 + (b1.toNat - 128), numR (r.take (b1.toNat - 128)), 0) := by simp [headB, show ¬ 30 < b0.toNat % 32 by omega, show ¬ b1.toNat < 128 by omega, show ¬ (b1.toNat - 128 = 0 ∨ 4 < b1.toNat - 128) by omega, show ¬ r.length < b1.toNat - 128 by omega, show ¬ 65536 < 2 + (b1.toNat - 128) + numR (r.take (b1.toNat - 128)) by omega]
 have e0 := str_at (b0 :: b1 :: r) 0 b0 rfl (by rw [Lib.size_mk]; simp)
 have e1 := str_at (b0 :: b1 :: r) 1 b1 rfl (by rw [Lib.size_mk]; simp)
 have ha := and31 b0
 obtain ⟨T, hT⟩ : ∃ T, b0.toNat % 32 = T := ⟨_, rfl⟩
 rw [hT] at ha h0
 have g1 : decide ((30 : Int) < (T : Int)) = false := decide_eq_false (by omega)
 have g2 : decide ((T : Int) > 30) = false := decide_eq_false (by omega)
 have g3 : ((r.length : Int) + 1 + 1 == 1) = false := by simp; omega
 have gp0 : (0 : Int) < (r.length : Int) + 1 + 1 := by omega
 have gp1 : (1 : Int) < (r.length : Int) + 1 + 1 := by omega
 have g4 : decide ((b1.toNat : Int) < 128) = false := decide_eq_false (by omega)
 obtain ⟨N, hN⟩ : ∃ N, b1.toNat - 128 = N := ⟨_, rfl⟩
 have hb1 : (b1.toNat : Int) = (N : Int) + 128 := by omega
 have hbl := UInt8.toNat_lt b1
 have hw0 : IntKind.i64.wrap (b1.toNat : Int) = (b1.toNat : Int) := by rw [IntKind.wrap_i64]; omega
 have hw1 : IntKind.i64.wrap ((b1.toNat : Int) - 128) = (N : Int) := by rw [IntKind.wrap_i64]; omega
 have hw2 : (b1.toNat : Int) - 128 = (N : Int) := by omega
 rw [hN] at HEQ0 hs2 hs
 have k1 : decide ((N : Int) < 1) = false := decide_eq_false (by omega)
 have k2 : decide ((N : Int) > 4) = false := decide_eq_false (by omega)
 have k3 : decide ((4 : Int) < (N : Int)) = false := decide_eq_false (by omega)
 have hw3 : IntKind.i64.wrap (2 + (N : Int)) = 2 + (N : Int) := by rw [IntKind.wrap_i64]; omega
 have k4 : decide ((r.length : Int) + 1 + 1 < 2 + (N : Int)) = false := decide_eq_false (by omega)
 have ex1 : (⟨(b0 :: b1 :: r).toArray⟩ : ByteArray).extract 2 (2 + N) = ⟨(r.take N).toArray⟩ := by rw [Lib.extract_eq]; simp
 have kg := Get_any (r.take N) (by simp; omega) (by simp; omega) w
 have hw4 : (0 : Int) ≤ 2 + (N : Int) := by omega
 have hw5 : ((2 : Int) + (N : Int)).toNat = 2 + N := by omega
 have hw6 : (2 : Int) + (N : Int) ≤ (r.length : Int) + 1 + 1 := by omega
 have hv := numB_lt N (r.take N) (by simp; omega)
 have hv2 : numR (r.take N) < 256 ^ 4 := Nat.lt_of_lt_of_le hv (Nat.pow_le_pow_right (by omega) (by omega))
 obtain ⟨V, hV⟩ : ∃ V, numR (r.take N) = V := ⟨_, rfl⟩
 rw [hV] at kg hv2 hs2 HEQ0
 have hw7 : IntKind.i64.wrap (2 + (N : Int) + (V : Int)) = 2 + (N : Int) + (V : Int) := by rw [IntKind.wrap_i64]; omega
 have k5 : decide (2 + (N : Int) + (V : Int) > 65536) = false := decide_eq_false (by omega)
 have k6 : decide (65536 < 2 + (N : Int) + (V : Int)) = false := decide_eq_false (by omega)
 have HEQ := hid HEQ0
 clear HEQ0 hT hN hV hv
 go_enter Tryz.func54, Tryz.ntmps54
 go_wp2_with fail
 try rw [ex1]
 refine Calls.mono kg ?_
 rintro e w1 ⟨rfl, hw1'⟩
 rw [hw1']
 clear hw1' kg
 go_wp2_with fail
 refine bodyPost_ret (v := .tuple #[.int .i64 (((2 + N : Nat) : Int)), .int .i64 ((V : Int)), .int .i64 0]) ?_ rfl (HeadP.of HEQ.out 0)
 simp [results, Tryz.f54]
theorem head_any (b : List UInt8) (hl : b.length ≤ 1000000000) (w : World) : Calls Tryz.prog 54 #[.string ⟨b.toArray⟩] w (HeadP w b) := by
 cases b with
 | nil => exact head_nil w
 | cons b0 r =>
  simp only [List.length_cons] at hl
  by_cases h0 : 30 < b0.toNat % 32
  ·exact head_tag b0 r (by omega) h0 w
  cases r with
  | nil => exact head_one b0 (by omega) w
  | cons b1 r =>
   simp only [List.length_cons] at hl
   by_cases h1 : b1.toNat < 128
   ·refine (head_short b0 b1 r (by omega) h1 w).mono ?_
    rintro e w' ⟨rfl, m, rfl⟩
    exact HeadP.of (n := 2) (m := b1.toNat) (c := 0) (by simp [headB, h0, h1]) m
   by_cases h2 : b1.toNat = 128
   ·exact head_len0 b0 b1 r (by omega) (by omega) (by omega) h2 w
   by_cases h3 : 132 < b1.toNat
   ·exact head_len5 b0 b1 r (by omega) (by omega) (by omega) h3 w
   by_cases h4 : r.length < b1.toNat - 128
   ·exact head_short2 b0 b1 r (by omega) (by omega) (by omega) (by omega) (by omega) h4 w
   by_cases h5 : 65536 < 2 + (b1.toNat - 128) + numR (r.take (b1.toNat - 128))
   ·exact head_big b0 b1 r (by omega) (by omega) (by omega) (by omega) (by omega) (by omega) h5 w
   ·exact head_long b0 b1 r (by omega) (by omega) (by omega) (by omega) (by omega) (by omega) (by omega) w
theorem ext_mid {n m : Nat} {b0 : UInt8} {r0 c rest S : List UInt8} (hS : S = (b0 :: r0) ++ (c ++ rest)) (hn : r0.length + 1 = n) (hm : c.length = m) : (⟨S.toArray⟩ : ByteArray).extract n (n + m) = ⟨c.toArray⟩ := by
 subst hS hn hm
 rw [Lib.extract_eq]
 simp
theorem ext_end {n m : Nat} {b0 : UInt8} {r0 c rest S : List UInt8} (hS : S = (b0 :: r0) ++ (c ++ rest)) (hn : r0.length + 1 = n) (hm : c.length = m) : (⟨S.toArray⟩ : ByteArray).extract (n + m) (n + m + rest.length) = ⟨rest.toArray⟩ := by
 subst hS hn hm
 rw [Lib.extract_eq]
 have h : List.drop (r0.length + 1 + c.length) (b0 :: (r0 ++ (c ++ rest))) = rest := by
  rw [show r0.length + 1 + c.length = (r0.length + c.length) + 1 by omega, List.drop_succ_cons, ← List.append_assoc, List.drop_left' (by simp)]
 simp [h]
set_option maxRecDepth 100000 in
set_option maxHeartbeats 4000000 in
theorem read_prim_g (n m : Nat) (b0 : UInt8) (r0 c rest S : List UInt8) (hS : S = (b0 :: r0) ++ (c ++ rest)) (hn : r0.length + 1 = n) (hm : c.length = m) (hh : headB S = (n, m, 0)) (hn6 : n ≤ 6) (hm6 : m ≤ 65536) (hp : b0.toNat / 32 % 2 = 0) (hr : rest.length ≤ 900000000) (d : Nat) (hd : d < 20) (w : World) :
  Calls Tryz.prog 56 #[.string ⟨S.toArray⟩, .int .i64 (d : Int)] w fun e w' => e = .returned (.tuple #[.agg (elA (.mk ((b0.toNat / 64 : Nat) : Int) ((b0.toNat % 32 : Nat) : Int) false c []) (.slice none 0 0)), .string ⟨rest.toArray⟩]) ∧ Below w.heap.size w w' := by
 have b1w : Below w.heap.size w (w.alloc (.cells Ze 45)) := (Below.refl _ _).alloc (Nat.le_refl _) _
 have r1 : (w.alloc (.cells Ze 45)).heap[w.heap.size]? = some (.cells Ze 45 (0, 0)) := alloc_at _ _ _ rfl
 have hSl : S.length = n + m + rest.length := by rw [hS]; simp; omega
 have kh : Calls Tryz.prog 54 #[.string ⟨S.toArray⟩] (w.alloc (.cells Ze 45)) fun e w' => e = .returned (.tuple #[.int .i64 (n : Int), .int .i64 (m : Int), .int .i64 0]) ∧ ∃ m, w' = (w.alloc (.cells Ze 45)).drewN m := by
  have h := head_any S (by omega) (w.alloc (.cells Ze 45))
  unfold HeadP at h
  rw [hh] at h
  exact h
 have HSS := hid hS
 clear hh hS
 go_enter Tryz.func56, Tryz.ntmps56
 go_wp2_with fail
 refine Calls.mono kh ?_
 rintro e w2 ⟨rfl, q, rfl⟩
 have r2 : ((w.alloc (.cells Ze 45)).drewN q).heap[w.heap.size]? = some (.cells Ze 45 (0, 0)) := r1
 have b2 := bel_drwN b1w q
 clear r1 b1w kh
 generalize (w.alloc (.cells Ze 45)).drewN q = w2 at r2 b2 ⊢
 have g1 : decide ((20 : Int) ≤ (d : Int)) = false := decide_eq_false (by omega)
 have g2 : decide ((S.length : Int) < (n : Int) + (m : Int)) = false := decide_eq_false (by omega)
 have hwn : IntKind.i64.wrap ((n : Int) + (m : Int)) = (n : Int) + (m : Int) := by rw [IntKind.wrap_i64]; omega
 go_wp2_with fail
 have e0 : (⟨S.toArray⟩ : ByteArray)[0]'(by simp [ByteArray.size]; omega) = b0 := str_at S 0 b0 (by rw [HSS.out]; rfl) _
 have ha := and31 b0
 have hb := and32 b0
 refine wp_region_held (S := fun _ => True) (by kernel_rfl) ?_
 have r3 : w2.drew.heap[w.heap.size]? = some (.cells Ze 45 (0, 0)) := r2
 have b3 : Below w.heap.size w w2.drew := b2.drew
 change wpAnyH _ _ _ _ _ _ _ _ w2.drew
 clear r2 b2
 generalize w2.drew = w3 at r3 b3 ⊢
 refine tk 0 (.string ⟨S.toArray⟩) rfl (fun w' _ => by go_simp) trivial (fun K hK => ?_); go_simp; refine hK _ _ ?_; clear hK K
 refine tk 4 (.string ⟨S.toArray⟩) rfl (fun w' _ => by go_simp) trivial (fun K hK => ?_); go_simp; refine hK _ _ ?_; clear hK K
 refine tk 8 (.string ⟨S.toArray⟩) rfl (fun w' _ => by go_simp) trivial (fun K hK => ?_); go_simp; refine hK _ _ ?_; clear hK K
 refine tk 1 (.int .u8 (b0.toNat : Int)) rfl (fun w' _ => by have hp0 : ¬ ((n : Int) + (m : Int) + (rest.length : Int) ≤ 0) := (by omega); go_simp) trivial (fun K hK => ?_); go_simp; refine hK _ _ ?_; clear hK K
 refine tk 5 (.int .u8 (b0.toNat : Int)) rfl (fun w' _ => by have hp0 : ¬ ((n : Int) + (m : Int) + (rest.length : Int) ≤ 0) := (by omega); go_simp) trivial (fun K hK => ?_); go_simp; refine hK _ _ ?_; clear hK K
 refine tk 9 (.int .u8 (b0.toNat : Int)) rfl (fun w' _ => by have hp0 : ¬ ((n : Int) + (m : Int) + (rest.length : Int) ≤ 0) := (by omega); go_simp) trivial (fun K hK => ?_); go_simp; refine hK _ _ ?_; clear hK K
 obtain ⟨Q, hQ⟩ : ∃ Q, b0.toNat / 64 = Q := ⟨_, rfl⟩
 obtain ⟨R, hR⟩ : ∃ R, b0.toNat % 32 = R := ⟨_, rfl⟩
 refine tk 2 (.int .u8 (Q : Int)) rfl (fun w' _ => by have hq : (b0.toNat : Int) / 64 = (Q : Int) := (by omega); go_simp) trivial (fun K hK => ?_); go_simp; refine hK _ _ ?_; clear hK K
 have hQ3 : Q ≤ 3 := by have := UInt8.toNat_lt b0; omega
 have hqw : IntKind.i64.wrap (Q : Int) = (Q : Int) := by rw [IntKind.wrap_i64]; omega
 have hrw : IntKind.i64.wrap (R : Int) = (R : Int) := by rw [IntKind.wrap_i64]; omega
 rw [hR] at ha
 rw [hp] at hb
 refine tk 6 (.int .u8 (R : Int)) rfl (fun w' _ => by go_simp) trivial (fun K hK => ?_); go_simp; refine hK _ _ ?_; clear hK K
 refine tk 10 (.int .u8 0) rfl (fun w' _ => by go_simp) trivial (fun K hK => ?_); go_simp; refine hK _ _ ?_; clear hK K
 refine tk 3 (.int .i64 (Q : Int)) rfl (fun w' _ => by go_simp) trivial (fun K hK => ?_); go_simp; refine hK _ _ ?_; clear hK K
 refine tk 7 (.int .i64 (R : Int)) rfl (fun w' _ => by go_simp) trivial (fun K hK => ?_); go_simp; refine hK _ _ ?_; clear hK K
 refine tk 11 (.bool false) rfl (fun w' _ => by go_simp) trivial (fun K hK => ?_); go_simp; refine hK _ _ ?_; clear hK K
 refine tk 12 (.agg #[.int .i64 (Q : Int), .int .i64 (R : Int), .bool false, .string ⟨#[]⟩, .slice none 0 0]) rfl (fun w' _ => by go_simp) trivial (fun K hK => ?_); go_simp; refine hK _ _ ?_; clear hK K
 refine anyH_one 13 (by kernel_rfl) rfl (by rfl) (fun K hK => ?_); go_simp; refine hK _ _ trivial ?_; clear hK K
 refine anyH_one 14 (by kernel_rfl) rfl (by rfl) (fun K hK => ?_); go_simp; refine hK _ _ trivial ?_; clear hK K
 refine wpAnyH_done (by kernel_rfl) ?_ _
 simp only [Exit.then]
 refine ‹∀ (a : Act) (w : World), Code.wp _ _ _ a w → _› _ _ ?_
 have hlt := (gl r3)
 have m3 : Below w3.heap.size w3 (w3.alloc (.cells #[.int .i64 (Q : Int), .int .i64 (R : Int), .bool false, .string ⟨#[]⟩, .slice none 0 0] 45)) := (Below.refl _ _).alloc (Nat.le_refl _) _
 have x4 : (w3.alloc (.cells #[.int .i64 (Q : Int), .int .i64 (R : Int), .bool false, .string ⟨#[]⟩, .slice none 0 0] 45)).heap[w3.heap.size]? = some (.cells #[.int .i64 (Q : Int), .int .i64 (R : Int), .bool false, .string ⟨#[]⟩, .slice none 0 0] 45 (0, 0)) := alloc_at _ _ _ rfl
 have r4 := (m3.block _ hlt).trans r3
 have b4 := b3.trans (m3.mono b3.size)
 obtain ⟨G, hG⟩ : ∃ G, w3.heap.size = G := ⟨_, rfl⟩
 rw [hG] at x4 hlt m3
 rw [hG]
 have hs4 := m3.size
 generalize w3.alloc (.cells #[.int .i64 (Q : Int), .int .i64 (R : Int), .bool false, .string ⟨#[]⟩, .slice none 0 0] 45) = w4 at x4 r4 b4 hs4 ⊢
 clear m3 hG r3 b3
 have ex1 : (⟨S.toArray⟩ : ByteArray).extract n (n + m) = ⟨c.toArray⟩ := by exact ext_mid HSS.out hn hm
 have kc := Clone_any c w4 (by omega)
 have q2 : w4.cell? ⟨G, 2, none⟩ = some (.bool false) := (cell_of_heap x4 2).trans rfl
 go_wp2_with fail
 try rw [ex1]
 refine Calls.mono kc ?_
 rintro e w5 ⟨rfl, hb5⟩
 have x5 := (hb5.block _ (gl x4)).trans x4
 have r5 := (hb5.block _ (gl r4)).trans r4
 have b5 := b4.trans (hb5.mono b4.size)
 have q3 : w5.cell? ⟨G, 3, none⟩ = some (.string ⟨#[]⟩) := (cell_of_heap x5 3).trans rfl
 have z3 := Lib.frozen_of_heap x5 3
 have x6 : (w5.setCell ⟨G, 3, none⟩ (.string ⟨c.toArray⟩)).heap[G]? = some (.cells #[.int .i64 (Q : Int), .int .i64 (R : Int), .bool false, .string ⟨c.toArray⟩, .slice none 0 0] 45 (0, 0)) := setCell_at (i := 3) (u := .string ⟨c.toArray⟩) x5
 have r6 := (Below.heap_setCell w5 ⟨G, 3, none⟩ (.string ⟨c.toArray⟩) w.heap.size (by show w.heap.size ≠ G; omega)).trans r5
 have b6 := b5.setCell (p := ⟨G, 3, none⟩) (Nat.le_of_lt hlt) (.string ⟨c.toArray⟩)
 clear kc x4 r4 b4 hb5 x5 r5 b5 ex1 q2
 go_wp2_with fail
 clear q3 z3
 generalize w5.setCell ⟨G, 3, none⟩ (.string ⟨c.toArray⟩) = w6 at x6 r6 b6 ⊢
 refine wp_region_held (S := fun w' => w'.heap[G]? = some (.cells #[.int .i64 (Q : Int), .int .i64 (R : Int), .bool false, .string ⟨c.toArray⟩, .slice none 0 0] 45 (0, 0))) (by kernel_rfl) ?_
 have x7 : w6.drew.heap[G]? = some (.cells #[.int .i64 (Q : Int), .int .i64 (R : Int), .bool false, .string ⟨c.toArray⟩, .slice none 0 0] 45 (0, 0)) := x6
 have r7 : w6.drew.heap[w.heap.size]? = some (.cells Ze 45 (0, 0)) := r6
 have b7 : Below w.heap.size w w6.drew := b6.drew
 change wpAnyH _ _ _ _ _ _ _ _ w6.drew
 clear x6 r6 b6
 generalize w6.drew = w7 at x7 r7 b7 ⊢
 refine tk 0 (.agg #[.int .i64 (Q : Int), .int .i64 (R : Int), .bool false, .string ⟨c.toArray⟩, .slice none 0 0]) rfl (fun w' hS => by exact exec_loadRow 45 (.tmp 9) rfl G 45 _ (0, 0) (by rfl) hS _ Tryz.underlying45 rfl (by rfl)) x7 (fun K hK => ?_); go_simp; refine hK _ _ ?_; clear hK K
 refine tk 1 (.string ⟨S.toArray⟩) rfl (fun w' hS => by go_simp) x7 (fun K hK => ?_); go_simp; refine hK _ _ ?_; clear hK K
 refine tk 2 (.int .i64 (n : Int)) rfl (fun w' hS => by go_simp) x7 (fun K hK => ?_); go_simp; refine hK _ _ ?_; clear hK K
 refine tk 3 (.int .i64 (m : Int)) rfl (fun w' hS => by go_simp) x7 (fun K hK => ?_); go_simp; refine hK _ _ ?_; clear hK K
 have hw2 : IntKind.i64.wrap ((n : Int) + (m : Int)) = (n : Int) + (m : Int) := by rw [IntKind.wrap_i64]; omega
 refine tk 4 (.int .i64 ((n : Int) + (m : Int))) rfl (fun w' hS => by go_simp) x7 (fun K hK => ?_); go_simp; refine hK _ _ ?_; clear hK K
 have ex2 : (⟨S.toArray⟩ : ByteArray).extract (n + m) (n + m + rest.length) = ⟨rest.toArray⟩ := by exact ext_end HSS.out hn hm
 refine tk 5 (.string ⟨rest.toArray⟩) rfl (fun w' hS => by have hw3 : (0 : Int) ≤ (n : Int) + (m : Int) := (by omega); have hw4 : ((n : Int) + (m : Int)).toNat = n + m := (by omega); go_simp) x7 (fun K hK => ?_); go_simp; refine hK _ _ ?_; clear hK K
 have hlt7 : w.heap.size ≠ G := by omega
 have k8 := setRow_heap w7 w.heap.size _ #[.int .i64 (Q : Int), .int .i64 (R : Int), .bool false, .string ⟨c.toArray⟩, .slice none 0 0] _ _ r7
 have x8 := (setRow_other w7 w.heap.size G #[.int .i64 (Q : Int), .int .i64 (R : Int), .bool false, .string ⟨c.toArray⟩, .slice none 0 0] (by omega)).trans x7
 have b8 := below_row b7 (g := w.heap.size) (Nat.le_refl _) #[.int .i64 (Q : Int), .int .i64 (R : Int), .bool false, .string ⟨c.toArray⟩, .slice none 0 0]
 refine anyH_one 6 (by kernel_rfl) rfl (by rfl) (fun K hK => ?_)
 refine op_storeRow 45 (.tmp 4) (.tmp 60) rfl w.heap.size 45 _ #[.int .i64 (Q : Int), .int .i64 (R : Int), .bool false, .string ⟨c.toArray⟩, .slice none 0 0] (by rfl) (by rfl) r7 (by rfl) (by rfl) (by simp [Value.oneCell']) ?_
 refine hK _ _ x8 ?_; clear hK K
 refine anyH_one 7 (by kernel_rfl) rfl (by rfl) (fun K hK => ?_); go_simp; refine hK _ _ x8 ?_; clear hK K
 refine wpAnyH_done (by kernel_rfl) ?_ _
 simp only [Exit.then]
 refine ‹∀ (a : Act) (w : World), Code.wp _ _ _ a w → _› _ _ ?_
 go_wp2_with fail
 refine bodyPost_ret (v := .tuple #[.agg #[.int .i64 (Q : Int), .int .i64 (R : Int), .bool false, .string ⟨c.toArray⟩, .slice none 0 0], .string ⟨rest.toArray⟩]) ?_ rfl ⟨?_, b8⟩
 ·have hr := run_loadVar_row (P := Tryz.prog) (w7.setRow w.heap.size #[.int .i64 (Q : Int), .int .i64 (R : Int), .bool false, .string ⟨c.toArray⟩, .slice none 0 0]) w.heap.size 45 45 #[.int .i64 (Q : Int), .int .i64 (R : Int), .bool false, .string ⟨c.toArray⟩, .slice none 0 0] (0, 0) _ k8 (show Tryz.prog.underlying 45 = _ from Tryz.underlying45) (by rfl) (by rfl)
  simp [results, Tryz.f56, asAddr, hr, Result.andThen]
 ·subst hQ hR
  rfl
end Go.Proofs.YthjaiigijbjloaaGreatDoor
