/- octet.Unhex at digits; dn's reader: a value of digits; what stands behind a backslash. -/
import Derived.Test.YtegigcneimjimaaGreatDoorDnR
import Derived.Lib.QuoteBits
namespace Go.Proofs.YtegigcneimjimaaGreatDoor
open Go.RowKit Go.Lib

theorem Tryz.infoByte : (Tryz.prog.info? 5).map (fun i => (i.zero, i.size, i.bytes)) = some (some (.int .u8 0), 1, 1) := by kernel_rfl
theorem own_below {w w' : World} {base e size n : Nat} {v : Value} {xs : List Value} (h : w.ownsRow base e size v n xs) (hb : Below w.heap.size w w') : w'.ownsRow base e size v n xs := by
  refine ⟨h.1, ?_⟩
  rcases h.2 with h' | ⟨g, cap, cur, hv, hbg, hg, r⟩
  · exact .inl h'
  · exact .inr ⟨g, cap, cur, hv, hbg, by rw [hb.block g (Array.getElem?_eq_some_iff.1 hg).1]; exact hg, r⟩
theorem wraps_i64 (n : Int) (h₀ : 0 ≤ n) (h₁ : n < 2 ^ 63) : IntKind.i64.wrap n = n := by
  obtain ⟨m, rfl⟩ := Int.eq_ofNat_of_zero_le h₀
  exact wrap_i64_small m (by omega)
theorem or_low (i : Nat) (x y : Nat) (hi : i < 60) (hx : x % 2 ^ i = 0) (hx₁ : x < 2 ^ 62) (hy : y < 2 ^ i) : bits .or .i64 (x : Int) (y : Int) = ((x + y : Nat) : Int) := by
  have hp : 2 ^ i < 2 ^ 60 := Nat.pow_lt_pow_right (by omega) hi
  rw [bits_join .i64 63 (by decide) wraps_i64 i (x : Int) (y : Int) (by omega) (by exact_mod_cast hx) (by omega) (by omega) (by exact_mod_cast hy) (by omega)]
  rfl
theorem hexD_lt (c : UInt8) : hexD c < 16 := by unfold hexD; (repeat' split) <;> omega
theorem isHex_nat {c : UInt8} (h : isHex c = true) : ∃ A : Nat, hexD c = (A : Int) ∧ A < 16 := by
  have h1 := of_decide_eq_true h
  have h2 := hexD_lt c
  exact ⟨(hexD c).toNat, by omega, by omega⟩
theorem hexB_nat {a b : UInt8} {A B : Nat} (ha : hexD a = (A : Int)) (hb : hexD b = (B : Int)) (h1 : A < 16) (h2 : B < 16) : (((hexB a b).toNat : Nat) : Int) = ((A : Int) * 16 + B) := by
  unfold hexB
  rw [ha, hb, UInt8.toNat_ofNat']
  omega
/-- The library's tables lie below a reader's block. -/
def EnvK (b : Nat) (w : World) : Prop := ∃ w0, Env w0 ∧ w0.heap.size ≤ b ∧ Below w0.heap.size w0 w
theorem EnvK.env {b : Nat} {w : World} (h : EnvK b w) : Env w := by obtain ⟨w0, h1, _, h3⟩ := h; exact h1.below h3
theorem EnvK.kept {b : Nat} {w w' : World} (h : EnvK b w) (k : Kept b w w') : EnvK b w' := by
  obtain ⟨w0, h1, h2, h3⟩ := h
  exact ⟨w0, h1, h2, h3.trans (k.below h2 h3.size)⟩
def UhRel (w : World) (s ANS : List UInt8) (v i : Value) (wr : World) : Prop :=
  ∃ (k : Nat) (o : List UInt8), i = .int .i64 (k : Int) ∧ k ≤ s.length ∧ k % 2 = 0 ∧ o.length ≤ k ∧ wr.ownsRow w.heap.size 5 1 v o.length (bV o) ∧ Below w.heap.size w wr ∧ o ++ unhexL (s.drop k) = ANS
set_option maxRecDepth 100000 in
set_option maxHeartbeats 2000000 in
theorem Unhex_any (s : List UInt8) (w : World) (hs : s.length ≤ 1099511627776) (hall : ∀ c ∈ s, isHex c = true) :
    Calls Tryz.prog 295 #[.string ⟨s.toArray⟩] w fun e w' => e = .returned (if s.length % 2 = 0 then .tuple #[.string ⟨(unhexL s).toArray⟩, .int .i64 0] else .tuple #[.string ⟨#[]⟩, .int .i64 11]) ∧ Below w.heap.size w w' := by
  by_cases hev : s.length % 2 = 0
  · rw [if_pos hev]
    have q1 : Int.tmod (s.length : Int) 2 = 0 := by rw [Int.tmod_eq_emod_of_nonneg (by omega)]; omega
    have q2 : (s.length : Int) % 2 = 0 := by omega
    obtain ⟨H, hH⟩ : ∃ H, s.length / 2 = H := ⟨_, rfl⟩
    have q3 : (s.length : Int) / 2 = (H : Int) := by omega
    obtain ⟨ANS, hA⟩ : ∃ ANS, unhexL s = ANS := ⟨_, rfl⟩
    rw [hA]
    have HA := Lib.hid hA
    have HW := Lib.hid hall
    clear hA hall
    obtain ⟨i0, hi0, hz0, hz1, hz2⟩ := info_parts Tryz.infoByte
    go_enter Tryz.func295, Tryz.ntmps295
    go_wp2_with (refine wpList_make_own _ rfl (.const (.int .i64 0)) (.tmp 14) 153 rfl w.heap.size 5 i0 (.int .u8 0) 1 Tryz.underlying153 hi0 hz0 hz1 .i64 .i64 (H : Int) H rfl rfl rfl ?_ ?_ (Nat.le_refl _) ?_)
    case refine_1 => rw [hz2]; omega
    case refine_2 => unfold maxLen; omega
    intro w1 ho1 hg1
    have hb1 : Below w.heap.size w w1 := (Below.refl _ w).grown hg1 (Nat.le_refl _) (fun k hk => by cases hk)
    go_wp2_with fail
    go_loopw [4, 5] (fun v i wr => UhRel w s ANS v i wr) (fun _ i _ => s.length - (RowKit.intOf i).toNat)
    case atStart => exact ⟨0, [], rfl, by omega, rfl, by simp, ho1, hb1, HA.out⟩
    case round =>
      clear ho1 hg1 hb1 HA
      obtain ⟨k, o, rfl, hk, hk2, ho, hown, hbe, hans⟩ := hrel
      have hsz := hbe.size
      by_cases hkl : k < s.length
      · have hk1 : k + 1 < s.length := by omega
        obtain ⟨x, hx⟩ : ∃ x, s[k] = x := ⟨_, rfl⟩
        obtain ⟨y, hy⟩ : ∃ y, s[k + 1] = y := ⟨_, rfl⟩
        have hdr : s.drop k = x :: y :: s.drop (k + 2) := by rw [List.drop_eq_getElem_cons hkl, hx, List.drop_eq_getElem_cons hk1, hy]
        rw [hdr, unhexL] at hans
        obtain ⟨X, hX, hX1⟩ := isHex_nat (HW.out x (by rw [← hx]; exact List.getElem_mem _))
        obtain ⟨Y, hY, hY1⟩ := isHex_nat (HW.out y (by rw [← hy]; exact List.getElem_mem _))
        have hz := hexB_nat hX hY hX1 hY1
        obtain ⟨z, hze⟩ : ∃ z, hexB x y = z := ⟨_, rfl⟩
        rw [hze] at hz hans
        have kx := fun n => Digit_any x (wr.drewN n)
        have ky := fun n => Digit_any y (wr.drewN n)
        rw [hX] at kx
        rw [hY] at ky
        have hbx : ∀ h', (⟨s.toArray⟩ : ByteArray)[k]'h' = x := fun h' => hx
        have hby : ∀ h', (⟨s.toArray⟩ : ByteArray)[k + 1]'h' = y := fun h' => hy
        have hor : bits .or .i64 ((X : Int) * 16) (Y : Int) = ((X : Int) * 16 + Y) := by
          have := or_low 4 (X * 16) Y (by omega) (by omega) (by omega) (by omega)
          simpa using this
        have zk : ((k : Int) + 1).toNat = k + 1 := by omega
        have hs2 : o ++ [z] ++ unhexL (s.drop (k + 2)) = ANS := by rw [← hans]; simp
        have HS := Lib.hid hs2
        clear hs2
        have h2 : wr.ownsRow w.heap.size 5 1 u4 o.length (bV o) := hown
        have hlt : (k : Int) < (s.length : Int) := by omega
        have hlt1 : (k : Int) + 1 < (s.length : Int) := by omega
        have hw1 : IntKind.i64.wrap ((k : Int) + 1) = (k : Int) + 1 := wraps_i64 _ (by omega) (by omega)
        clear hans hze hdr hx hy hX hY
        go_wp2
        go_quiet (first | (go_at_call_of 294 (Value.int .u8 (x.toNat : Int)); exact Calls.quiet_of_same ((kx _).mono fun e w' hh => ⟨hh.1, hh.2.symm⟩)) | (go_at_call_of 294 (Value.int .u8 (y.toNat : Int)); exact Calls.quiet_of_same ((ky _).mono fun e w' hh => ⟨hh.1, hh.2.symm⟩)))
        have hown2 : (wr.drewN nq).ownsRow w.heap.size 5 1 u4 o.length (bV o) := hown
        have hbe2 : Below w.heap.size w (wr.drewN nq) := Below.drewN hbe nq
        clear hown hbe kx ky h2
        generalize wr.drewN nq = wd at hown2 hbe2 ⊢
        have hsz2 := hbe2.size
        go_wp2_with (at_builtin; refine wpList_append_own _ rfl (.tmp 37) (.tmp 43) 153 rfl w.heap.size 5 i0 (.int .u8 0) 1 1 Tryz.underlying153 hi0 hz0 hz1 hz2 rfl (by decide) u4 o.length (bV o) rfl (hown2.alloc _) ⟨wd.heap.size, 0, none⟩ 1 1 [.int .u8 ((X : Int) * 16 + Y)] rfl rfl (cell_one_new _ _ _) ?d2 ?d3 ?d4 ?d5 ?_)
        case d2 => intro u hu; simp at hu; subst hu; rfl
        case d3 => unfold maxLen; omega
        case d4 => omega
        case d5 => simp; omega
        intro v' w3 ho3 hg3 _
        go_wp2_with fail
        go_roundw
        case rel =>
          refine ⟨k + 2, o ++ [z], by go_num, by omega, by omega, by simp; omega, ?_, ?_, HS.out⟩
          · rw [List.length_append, bV_append]
            rw [← hz] at ho3
            exact ho3
          · exact (hbe2.alloc hsz2 _).grown hg3 (by simp; omega) (fun b hb => (hown2.lt b hb).1)
        case measure => simp [RowKit.intOf]; omega
      · obtain rfl : k = s.length := by omega
        rw [List.drop_of_length_le (Nat.le_refl _)] at hans
        simp only [unhexL, List.append_nil] at hans
        subst hans
        have hcv := run_str_own (P := Tryz.prog) wr 153 9 5 w.heap.size u4 o Tryz.underlying153 Tryz.underlying5 Tryz.underlying9 hown
        go_wp2_with fail
        go_ret2
        exact ⟨rfl, hbe⟩
  · rw [if_neg hev]
    have q1 : Int.tmod (s.length : Int) 2 = 1 := by rw [Int.tmod_eq_emod_of_nonneg (by omega)]; omega
    have q2 : (s.length : Int) % 2 = 1 := by omega
    go_enter Tryz.func295, Tryz.ntmps295
    go_wp2_with fail
    go_ret2
    exact ⟨rfl, Below.refl _ _⟩
end Go.Proofs.YtegigcneimjimaaGreatDoor
