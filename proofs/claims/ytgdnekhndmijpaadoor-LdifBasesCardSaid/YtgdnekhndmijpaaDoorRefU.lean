/- chanceryref18: base 64 read as the document has it. -/
import Derived.Test.YtgdnekhndmijpaaDoorRefB
namespace Go.Proofs.YtgdnekhndmijpaaDoor
open Go.RowKit Go.Lib

def U3 (a b c d : UInt8) (v n k : Value) : Prop :=
  (k = .int .i64 0 ∧ v = .int .i64 0 ∧ n = .int .i64 3) ∨ (k = .int .i64 1 ∧ v = .int .i64 (dg a : Nat) ∧ n = .int .i64 3) ∨ (k = .int .i64 2 ∧ v = .int .i64 ((dg a * 64 + dg b : Nat) : Int) ∧ n = .int .i64 3) ∨
  (k = .int .i64 3 ∧ v = .int .i64 (((dg a * 64 + dg b) * 64 + dg c : Nat) : Int) ∧ n = .int .i64 (if bad c then 1 else 3)) ∨ (k = .int .i64 4 ∧ v = .int .i64 (rv a b c d : Nat) ∧ n = .int .i64 (rn c d : Nat))
def URel2 (w : World) (s ANS : List UInt8) (v i : Value) (wr : World) : Prop :=
  ∃ (k : Nat) (o : List UInt8), i = .int .i64 (k : Int) ∧ k ≤ s.length ∧ o.length ≤ k ∧ wr.ownsRow w.heap.size 5 1 v o.length (bV o) ∧ Below w.heap.size w wr ∧ o ++ rdec (s.drop k) = ANS
theorem good_dg {c : UInt8} {V : Int} (h : indexByte tab64 c = V) (hV : ¬ V < 0) : V = (dg c : Nat) ∧ bad c = false := by
  unfold dg bad
  rw [h]
  exact ⟨by omega, decide_eq_false hV⟩
theorem bad_dg {c : UInt8} {V : Int} (h : indexByte tab64 c = V) (hV : V < 0) : dg c = 0 ∧ bad c = true := by
  unfold dg bad
  rw [h]
  exact ⟨by omega, decide_eq_true hV⟩
theorem get_drop4 {s : List UInt8} {k : Nat} (h : k + 4 ≤ s.length) : ∃ a b c d t, s.drop k = a :: b :: c :: d :: t ∧ s.drop (k + 4) = t := by
  have e : ∀ j, k + j < s.length → s.drop (k + j) = s.getD (k + j) 0 :: s.drop (k + j + 1) := by
    intro j hj
    rw [List.drop_eq_getElem_cons hj, List.getD_eq_getElem?_getD, List.getElem?_eq_getElem hj]
    rfl
  refine ⟨s.getD (k + 0) 0, s.getD (k + 1) 0, s.getD (k + 2) 0, s.getD (k + 3) 0, s.drop (k + 4), ?_, rfl⟩
  · have e0 := e 0 (by omega)
    have e1 := e 1 (by omega)
    have e2 := e 2 (by omega)
    have e3 := e 3 (by omega)
    simp only [Nat.add_zero, Nat.add_assoc, Nat.reduceAdd] at e0 e1 e2 e3 ⊢
    rw [e0, e1, e2, e3]
theorem byte_of_drop {s : List UInt8} {k j : Nat} {x : UInt8} (h : (s.drop k)[j]? = some x) (h' : k + j < (⟨s.toArray⟩ : ByteArray).size) : (⟨s.toArray⟩ : ByteArray)[k + j]'h' = x := by
  rw [List.getElem?_drop] at h
  have hl : k + j < s.length := by rw [Lib.size_mk] at h'; exact h'
  rw [List.getElem?_eq_getElem hl] at h
  exact Option.some.inj h

set_option maxRecDepth 100000 in
set_option maxHeartbeats 2000000 in
theorem RUnbase64_any (s : List UInt8) (w : World) (hl : s.length ≤ 1099511627776) :
    Calls Tryd.prog 16 #[.string ⟨s.toArray⟩] w fun e w' => e = .returned (.tuple #[.string ⟨((unb s).getD []).toArray⟩, .int .i64 (if (unb s).isSome then 0 else 110)]) ∧ Below w.heap.size w w' := by
  obtain ⟨A, hA⟩ : ∃ A, unb s = A := ⟨_, rfl⟩
  rw [hA]
  rw [unb_ref] at hA
  obtain ⟨D, hD⟩ : ∃ D, rdec s = D := ⟨_, rfl⟩
  rw [hD] at hA
  have HD := Lib.hid hD
  have HU := Lib.hid hA
  clear hD hA
  go_enter Tryd.func16, Tryd.ntmps16
  go_wp2_with fail
  go_loopw [4, 5] (fun v i wr => URel2 w s D v i wr) (fun _ i _ => s.length - (RowKit.intOf i).toNat)
  case atStart => exact ⟨0, [], rfl, by omega, by simp, World.ownsRow_nil _ _ _ _, Below.refl _ _, HD.out⟩
  case round =>
    obtain ⟨k, o, rfl, hk, ho, hown, hbe, hans⟩ := hrel
    have HA := Lib.hid hans
    clear hans HD
    have hsz := hbe.size
    by_cases hks : k + 4 ≤ s.length
    · obtain ⟨a, b, c, d, t, hdr, hdr4⟩ := get_drop4 hks
      have hg0 : ∀ h, (⟨s.toArray⟩ : ByteArray)[k]'h = a := fun h => byte_of_drop (j := 0) (by rw [hdr]; rfl) h
      have hg1 : ∀ h, (⟨s.toArray⟩ : ByteArray)[k + 1]'h = b := fun h => byte_of_drop (j := 1) (by rw [hdr]; rfl) h
      have hg2 : ∀ h, (⟨s.toArray⟩ : ByteArray)[k + 2]'h = c := fun h => byte_of_drop (j := 2) (by rw [hdr]; rfl) h
      have hg3 : ∀ h, (⟨s.toArray⟩ : ByteArray)[k + 3]'h = d := fun h => byte_of_drop (j := 3) (by rw [hdr]; rfl) h
      have hans := HA.out
      rw [hdr, rdec_step _ (by simp), ← List.append_assoc] at hans
      simp only [List.drop_succ_cons, List.drop_zero, ← hdr4] at hans
      have HS := Lib.hid hans
      clear hans HA hdr hdr4
      have ra := dg_lt a
      have rb := dg_lt b
      have rc := dg_lt c
      have rd := dg_lt d
      have z1 : ((k : Int) + 1).toNat = k + 1 := by omega
      have z2 : ((k : Int) + 2).toNat = k + 2 := by omega
      have z3 : ((k : Int) + 3).toNat = k + 3 := by omega
      have hdec : decide ((k : Int) + 4 ≤ (s.length : Int)) = true := decide_eq_true (by omega)
      go_wp2_with fail
      go_loopw [6, 7, 8] (fun v n kv wq => U3 a b c d v n kv ∧ wq = wr) (fun _ _ kv _ => (4 - RowKit.intOf kv).toNat)
      case atStart => exact ⟨.inl ⟨rfl, rfl, rfl⟩, rfl⟩
      case round =>
        obtain ⟨hrel, rfl⟩ := hrel
        rcases hrel with ⟨rfl, rfl, rfl⟩ | ⟨rfl, rfl, rfl⟩ | ⟨rfl, rfl, rfl⟩ | ⟨rfl, rfl, rfl⟩ | ⟨rfl, rfl, rfl⟩
        · have kd := rdigit_any a wr
          obtain ⟨V, hV⟩ : ∃ V, indexByte tab64 a = V := ⟨_, rfl⟩
          rw [hV] at kd
          by_cases hV0 : V < 0
          · have hb := bad_dg hV hV0
            have q1 : decide (V < 0) = true := decide_eq_true hV0
            have HB := Lib.hid hb
            clear hb hV
            go_wp2_with (go_at_call 42; refine Calls.mono (show Calls _ _ _ _ _ from kd) ?_; rintro e w' ⟨rfl, rfl⟩)
            go_roundw
            case measure => simp [RowKit.intOf]
            case rel =>
            refine ⟨.inr (.inl (⟨rfl, ?_, ?_⟩)), trivial⟩
            · rw [HB.out.1]; rfl
            · rfl
          · have hb := good_dg hV hV0
            have q1 : decide (V < 0) = false := decide_eq_false hV0
            obtain ⟨Z, hZ⟩ : ∃ Z, dg a = Z := ⟨_, rfl⟩
            have hVZ : V = (Z : Int) := by rw [hb.1, hZ]
            have hZl : Z < 64 := by omega
            subst hVZ
            have HB := Lib.hid hb
            have HZ := Lib.hid hZ
            clear hb hV hZ
            go_wp2_with (go_at_call 42; refine Calls.mono (show Calls _ _ _ _ _ from kd) ?_; rintro e w' ⟨rfl, rfl⟩)
            go_roundw
            case measure => simp [RowKit.intOf]
            case rel =>
            refine ⟨.inr (.inl (⟨rfl, ?_, ?_⟩)), trivial⟩
            · rw [HZ.out]
            · rfl
        · have kd := rdigit_any b wr
          obtain ⟨V, hV⟩ : ∃ V, indexByte tab64 b = V := ⟨_, rfl⟩
          rw [hV] at kd
          obtain ⟨P, hP⟩ : ∃ P, dg a = P := ⟨_, rfl⟩
          have hPl : P < 64 := by omega
          rw [hP]
          by_cases hV0 : V < 0
          · have hb := bad_dg hV hV0
            have q1 : decide (V < 0) = true := decide_eq_true hV0
            have HB := Lib.hid hb
            have HP := Lib.hid hP
            clear hb hV hP
            go_wp2_with (go_at_call 42; refine Calls.mono (show Calls _ _ _ _ _ from kd) ?_; rintro e w' ⟨rfl, rfl⟩)
            go_roundw
            case measure => simp [RowKit.intOf]
            case rel =>
            refine ⟨.inr (.inr (.inl (⟨rfl, ?_, ?_⟩))), trivial⟩
            · have hh : dg a * 64 + dg b = P * 64 + 0 := by rw [HP.out, HB.out.1]
              rw [hh]
              simp
            · rfl
          · have hb := good_dg hV hV0
            have q1 : decide (V < 0) = false := decide_eq_false hV0
            obtain ⟨Z, hZ⟩ : ∃ Z, dg b = Z := ⟨_, rfl⟩
            have hVZ : V = (Z : Int) := by rw [hb.1, hZ]
            have hZl : Z < 64 := by omega
            subst hVZ
            have HB := Lib.hid hb
            have HP := Lib.hid hP
            have HZ := Lib.hid hZ
            clear hb hV hP hZ
            go_wp2_with (go_at_call 42; refine Calls.mono (show Calls _ _ _ _ _ from kd) ?_; rintro e w' ⟨rfl, rfl⟩)
            go_roundw
            case measure => simp [RowKit.intOf]
            case rel =>
            refine ⟨.inr (.inr (.inl (⟨rfl, ?_, ?_⟩))), trivial⟩
            · have hh : dg a * 64 + dg b = P * 64 + Z := by rw [HP.out, HZ.out]
              rw [hh]
              simp
            · rfl
        · have kd := rdigit_any c wr
          obtain ⟨V, hV⟩ : ∃ V, indexByte tab64 c = V := ⟨_, rfl⟩
          rw [hV] at kd
          obtain ⟨P, hP⟩ : ∃ P, dg a * 64 + dg b = P := ⟨_, rfl⟩
          have hPl : P < 4096 := by omega
          rw [hP]
          by_cases hV0 : V < 0
          · have hb := bad_dg hV hV0
            have q1 : decide (V < 0) = true := decide_eq_true hV0
            have HB := Lib.hid hb
            have HP := Lib.hid hP
            clear hb hV hP
            go_wp2_with (go_at_call 42; refine Calls.mono (show Calls _ _ _ _ _ from kd) ?_; rintro e w' ⟨rfl, rfl⟩)
            go_roundw
            case measure => simp [RowKit.intOf]
            case rel =>
            refine ⟨.inr (.inr (.inr (.inl (⟨rfl, ?_, ?_⟩)))), trivial⟩
            · have hh : (dg a * 64 + dg b) * 64 + dg c = P * 64 + 0 := by rw [HP.out, HB.out.1]
              rw [hh]
              simp
            · rw [HB.out.2]; rfl
          · have hb := good_dg hV hV0
            have q1 : decide (V < 0) = false := decide_eq_false hV0
            obtain ⟨Z, hZ⟩ : ∃ Z, dg c = Z := ⟨_, rfl⟩
            have hVZ : V = (Z : Int) := by rw [hb.1, hZ]
            have hZl : Z < 64 := by omega
            subst hVZ
            have HB := Lib.hid hb
            have HP := Lib.hid hP
            have HZ := Lib.hid hZ
            clear hb hV hP hZ
            go_wp2_with (go_at_call 42; refine Calls.mono (show Calls _ _ _ _ _ from kd) ?_; rintro e w' ⟨rfl, rfl⟩)
            go_roundw
            case measure => simp [RowKit.intOf]
            case rel =>
            refine ⟨.inr (.inr (.inr (.inl (⟨rfl, ?_, ?_⟩)))), trivial⟩
            · have hh : (dg a * 64 + dg b) * 64 + dg c = P * 64 + Z := by rw [HP.out, HZ.out]
              rw [hh]
              simp
            · rw [HB.out.2]; rfl
        · have kd := rdigit_any d wr
          obtain ⟨V, hV⟩ : ∃ V, indexByte tab64 d = V := ⟨_, rfl⟩
          rw [hV] at kd
          obtain ⟨P, hP⟩ : ∃ P, (dg a * 64 + dg b) * 64 + dg c = P := ⟨_, rfl⟩
          have hPl : P < 262144 := by omega
          rw [hP]
          by_cases hV0 : V < 0
          · have hb := bad_dg hV hV0
            have q1 : decide (V < 0) = true := decide_eq_true hV0
            by_cases hbc : bad c = true
            · rw [if_pos hbc]
              have HB := Lib.hid hb
              have HP := Lib.hid hP
              clear hb hV hP
              go_wp2_with (go_at_call 42; refine Calls.mono (show Calls _ _ _ _ _ from kd) ?_; rintro e w' ⟨rfl, rfl⟩)
              go_roundw
              case measure => simp [RowKit.intOf]
              case rel =>
              refine ⟨.inr (.inr (.inr (.inr (⟨rfl, ?_, ?_⟩)))), trivial⟩
              · have hh : rv a b c d = P * 64 + 0 := by unfold rv; rw [HP.out, HB.out.1]
                rw [hh]
                simp
              · unfold rn; rw [HB.out.2]; simp [hbc]
            · rw [if_neg hbc]
              have HB := Lib.hid hb
              have HP := Lib.hid hP
              clear hb hV hP
              go_wp2_with (go_at_call 42; refine Calls.mono (show Calls _ _ _ _ _ from kd) ?_; rintro e w' ⟨rfl, rfl⟩)
              go_roundw
              case measure => simp [RowKit.intOf]
              case rel =>
              refine ⟨.inr (.inr (.inr (.inr (⟨rfl, ?_, ?_⟩)))), trivial⟩
              · have hh : rv a b c d = P * 64 + 0 := by unfold rv; rw [HP.out, HB.out.1]
                rw [hh]
                simp
              · unfold rn; rw [HB.out.2]; simp [hbc]
          · have hb := good_dg hV hV0
            have q1 : decide (V < 0) = false := decide_eq_false hV0
            obtain ⟨Z, hZ⟩ : ∃ Z, dg d = Z := ⟨_, rfl⟩
            have hVZ : V = (Z : Int) := by rw [hb.1, hZ]
            have hZl : Z < 64 := by omega
            subst hVZ
            by_cases hbc : bad c = true
            · rw [if_pos hbc]
              have HB := Lib.hid hb
              have HP := Lib.hid hP
              have HZ := Lib.hid hZ
              clear hb hV hP hZ
              go_wp2_with (go_at_call 42; refine Calls.mono (show Calls _ _ _ _ _ from kd) ?_; rintro e w' ⟨rfl, rfl⟩)
              go_roundw
              case measure => simp [RowKit.intOf]
              case rel =>
              refine ⟨.inr (.inr (.inr (.inr (⟨rfl, ?_, ?_⟩)))), trivial⟩
              · have hh : rv a b c d = P * 64 + Z := by unfold rv; rw [HP.out, HZ.out]
                rw [hh]
                simp
              · unfold rn; rw [HB.out.2]; simp [hbc]
            · rw [if_neg hbc]
              have HB := Lib.hid hb
              have HP := Lib.hid hP
              have HZ := Lib.hid hZ
              clear hb hV hP hZ
              go_wp2_with (go_at_call 42; refine Calls.mono (show Calls _ _ _ _ _ from kd) ?_; rintro e w' ⟨rfl, rfl⟩)
              go_roundw
              case measure => simp [RowKit.intOf]
              case rel =>
              refine ⟨.inr (.inr (.inr (.inr (⟨rfl, ?_, ?_⟩)))), trivial⟩
              · have hh : rv a b c d = P * 64 + Z := by unfold rv; rw [HP.out, HZ.out]
                rw [hh]
                simp
              · unfold rn; rw [HB.out.2]; simp [hbc]
        · have hrv : rv a b c d < 16777216 := by unfold rv; omega
          have hrn : rn c d = 1 ∨ rn c d = 2 ∨ rn c d = 3 := by unfold rn; split; exact .inl rfl; split; exact .inr (.inl rfl); exact .inr (.inr rfl)
          have hch : ∀ t, rchunk (a :: b :: c :: d :: t) = (rthree a b c d).take (rn c d) := fun _ => rfl
          unfold rthree at hch
          obtain ⟨X, hX⟩ : ∃ X, rv a b c d = X := ⟨_, rfl⟩
          obtain ⟨M, hM⟩ : ∃ M, rn c d = M := ⟨_, rfl⟩
          simp only [hX, hM] at hch
          rw [hX] at hrv ⊢
          rw [hM] at hrn ⊢
          obtain ⟨y0, h0⟩ : ∃ y, UInt8.ofNat (X / 65536) = y := ⟨_, rfl⟩
          obtain ⟨y1, h1⟩ : ∃ y, UInt8.ofNat (X / 256 % 256) = y := ⟨_, rfl⟩
          obtain ⟨y2, h2⟩ : ∃ y, UInt8.ofNat (X % 256) = y := ⟨_, rfl⟩
          have c0 : (X : Int) / 65536 = (y0.toNat : Int) := by rw [← h0, UInt8.toNat_ofNat']; omega
          have c1 : (X : Int) / 256 % 256 = (y1.toNat : Int) := by rw [← h1, UInt8.toNat_ofNat']; omega
          have c2 : (X : Int) % 256 = (y2.toNat : Int) := by rw [← h2, UInt8.toNat_ofNat']; omega
          have l0 := UInt8.toNat_lt y0
          have l1 := UInt8.toNat_lt y1
          have l2 := UInt8.toNat_lt y2
          simp only [h0, h1, h2] at hch
          obtain ⟨i0, hi0, hz0, hz1, hz2⟩ := info_parts Tryd.infoByte
          clear hX hM h0 h1 h2
          have hans := HS.out
          rw [hch] at hans
          clear hch HS
          rcases hrn with rfl | rfl | rfl
          · have HS2 := Lib.hid hans
            clear hans
            have hcells : ∀ j u, ([.int .u8 (y0.toNat : Int)] : List Value)[j]? = some u → (wr.alloc (.cells #[.int .u8 (y0.toNat : Int), .int .u8 (y1.toNat : Int), .int .u8 (y2.toNat : Int)] 5)).cell? ((⟨wr.heap.size, 0, none⟩ : Addr).add j) = some u := by
              intro j u hj
              refine cells_new wr [.int .u8 (y0.toNat : Int), .int .u8 (y1.toNat : Int), .int .u8 (y2.toNat : Int)] 5 j u ?_
              match j, hj with
              | 0, hj => exact hj
              | j + 1, hj => simp at hj
            have HC := Lib.hid hcells
            clear hcells
            go_wp2_with (at_builtin; refine wpList_append_own _ rfl (.tmp 53) (.tmp 56) 45 rfl w.heap.size 5 i0 (.int .u8 0) 1 1 Tryd.underlying45 hi0 hz0 hz1 hz2 rfl (by decide) u4 o.length (bV o) rfl (hown.alloc _) ⟨wr.heap.size, 0, none⟩ 1 3 [.int .u8 (y0.toNat : Int)] rfl rfl HC.out ?d2 ?d3 ?d4 ?d5 ?_)
            case d2 => intro u hu; simp at hu; rcases hu with rfl <;> rfl
            case d3 => unfold maxLen; omega
            case d4 => omega
            case d5 => simp; omega
            intro v' w3 ho3 hg3 _
            go_wp2_with fail
            go_roundw
            case rel =>
              refine ⟨k + 4, o ++ [y0], by go_num, by omega, by simp; omega, ?_, ?_, HS2.out⟩
              · rw [List.length_append, bV_append]
                exact ho3
              · exact (hbe.alloc hsz _).grown hg3 (by simp; omega) (fun b hb => (hown.lt b hb).1)
            case measure => simp [RowKit.intOf]; omega
          · have HS2 := Lib.hid hans
            clear hans
            have hcells : ∀ j u, ([.int .u8 (y0.toNat : Int), .int .u8 (y1.toNat : Int)] : List Value)[j]? = some u → (wr.alloc (.cells #[.int .u8 (y0.toNat : Int), .int .u8 (y1.toNat : Int), .int .u8 (y2.toNat : Int)] 5)).cell? ((⟨wr.heap.size, 0, none⟩ : Addr).add j) = some u := by
              intro j u hj
              refine cells_new wr [.int .u8 (y0.toNat : Int), .int .u8 (y1.toNat : Int), .int .u8 (y2.toNat : Int)] 5 j u ?_
              match j, hj with
              | 0, hj => exact hj
              | 1, hj => exact hj
              | j + 2, hj => simp at hj
            have HC := Lib.hid hcells
            clear hcells
            go_wp2_with (at_builtin; refine wpList_append_own _ rfl (.tmp 53) (.tmp 56) 45 rfl w.heap.size 5 i0 (.int .u8 0) 1 1 Tryd.underlying45 hi0 hz0 hz1 hz2 rfl (by decide) u4 o.length (bV o) rfl (hown.alloc _) ⟨wr.heap.size, 0, none⟩ 2 3 [.int .u8 (y0.toNat : Int), .int .u8 (y1.toNat : Int)] rfl rfl HC.out ?d2 ?d3 ?d4 ?d5 ?_)
            case d2 => intro u hu; simp at hu; rcases hu with rfl | rfl <;> rfl
            case d3 => unfold maxLen; omega
            case d4 => omega
            case d5 => simp; omega
            intro v' w3 ho3 hg3 _
            go_wp2_with fail
            go_roundw
            case rel =>
              refine ⟨k + 4, o ++ [y0, y1], by go_num, by omega, by simp; omega, ?_, ?_, HS2.out⟩
              · rw [List.length_append, bV_append]
                exact ho3
              · exact (hbe.alloc hsz _).grown hg3 (by simp; omega) (fun b hb => (hown.lt b hb).1)
            case measure => simp [RowKit.intOf]; omega
          · have HS2 := Lib.hid hans
            clear hans
            have hcells : ∀ j u, ([.int .u8 (y0.toNat : Int), .int .u8 (y1.toNat : Int), .int .u8 (y2.toNat : Int)] : List Value)[j]? = some u → (wr.alloc (.cells #[.int .u8 (y0.toNat : Int), .int .u8 (y1.toNat : Int), .int .u8 (y2.toNat : Int)] 5)).cell? ((⟨wr.heap.size, 0, none⟩ : Addr).add j) = some u := by
              intro j u hj
              refine cells_new wr [.int .u8 (y0.toNat : Int), .int .u8 (y1.toNat : Int), .int .u8 (y2.toNat : Int)] 5 j u ?_
              match j, hj with
              | 0, hj => exact hj
              | 1, hj => exact hj
              | 2, hj => exact hj
              | j + 3, hj => simp at hj
            have HC := Lib.hid hcells
            clear hcells
            go_wp2_with (at_builtin; refine wpList_append_own _ rfl (.tmp 53) (.tmp 56) 45 rfl w.heap.size 5 i0 (.int .u8 0) 1 1 Tryd.underlying45 hi0 hz0 hz1 hz2 rfl (by decide) u4 o.length (bV o) rfl (hown.alloc _) ⟨wr.heap.size, 0, none⟩ 3 3 [.int .u8 (y0.toNat : Int), .int .u8 (y1.toNat : Int), .int .u8 (y2.toNat : Int)] rfl rfl HC.out ?d2 ?d3 ?d4 ?d5 ?_)
            case d2 => intro u hu; simp at hu; rcases hu with rfl | rfl | rfl <;> rfl
            case d3 => unfold maxLen; omega
            case d4 => omega
            case d5 => simp; omega
            intro v' w3 ho3 hg3 _
            go_wp2_with fail
            go_roundw
            case rel =>
              refine ⟨k + 4, o ++ [y0, y1, y2], by go_num, by omega, by simp; omega, ?_, ?_, HS2.out⟩
              · rw [List.length_append, bV_append]
                exact ho3
              · exact (hbe.alloc hsz _).grown hg3 (by simp; omega) (fun b hb => (hown.lt b hb).1)
            case measure => simp [RowKit.intOf]; omega
    · have hs := HA.out
      rw [rdec_end _ (by rw [List.length_drop]; omega), List.append_nil] at hs
      subst hs
      have hcv := run_str_own (P := Tryd.prog) wr 45 9 5 w.heap.size u4 o Tryd.underlying45 Tryd.underlying5 Tryd.underlying9 hown
      have c3 := RBase64_any o wr (by omega)
      have hu := HU.out
      obtain ⟨E, hEe⟩ : ∃ E, b64 o = E := ⟨_, rfl⟩
      rw [hEe] at c3 hu
      clear hEe HA HU
      by_cases hes : E = s
      · rw [if_pos hes] at hu
        subst hu hes
        go_wp2_with (go_at_call 18; refine c3.mono ?_; rintro e w2 ⟨rfl, hb2⟩; have hcv2 := run_str_own (P := Tryd.prog) w2 45 9 5 w.heap.size u4 o Tryd.underlying45 Tryd.underlying5 Tryd.underlying9 (own_below hown hb2))
        go_ret2
        exact ⟨rfl, below_ext hbe hb2⟩
      · rw [if_neg hes] at hu
        subst hu
        have hbq : (E == s) = false := beq_eq_false_iff_ne.2 hes
        go_wp2_with (go_at_call 18; refine c3.mono ?_; rintro e w2 ⟨rfl, hb2⟩; have hcv2 := run_str_own (P := Tryd.prog) w2 45 9 5 w.heap.size u4 o Tryd.underlying45 Tryd.underlying5 Tryd.underlying9 (own_below hown hb2))
        go_ret2
        exact ⟨rfl, below_ext hbe hb2⟩
end Go.Proofs.YtgdnekhndmijpaaDoor
