/- octet.Text, octet.Hex, dn.written: what they return. -/
import Derived.Test.YtegigcneimjimaaGreatDoorDnE
import Derived.StillTailTactics
namespace Go.Proofs.YtegigcneimjimaaGreatDoor
open Go.RowKit Go.Lib

theorem Text_any (s : List UInt8) (w : World) (hs : s.length ≤ 1099511627776) (hE : Env w) :
    Calls Tryz.prog 208 #[.string ⟨s.toArray⟩] w fun e w' => e = .returned (.bool (validD s)) ∧ Below w.heap.size w w' := by
  have k1 := Tryz.utf8_ValidString ⟨s.toArray⟩ w (by rw [Lib.size_mk]; omega) hE.tabs
  simp only at k1
  generalize validD s = q at k1 ⊢
  go_enter Tryz.func208, Tryz.ntmps208
  go_wp2_with (go_at_call 255; refine Calls.mono (show Calls _ _ _ _ _ from k1) ?_; rintro e w1 ⟨rfl, hb1⟩)
  go_ret
  exact ⟨rfl, hb1⟩
def WRel (w : World) (s ANS : List UInt8) (v i : Value) (wr : World) : Prop :=
  ∃ (k : Nat) (o : List UInt8), i = .int .i64 (k : Int) ∧ k ≤ s.length ∧ o.length ≤ 3 * k ∧ wr.ownsRow w.heap.size 5 1 v o.length (bV o) ∧ Below w.heap.size w wr ∧ o ++ wrB (decide (k = 0)) (s.drop k) = ANS
set_option maxRecDepth 100000 in
set_option maxHeartbeats 4000000 in
theorem written_valid (s : List UInt8) (w : World) (hs : s.length ≤ 1099511627776) (hE : Env w) (hv : validD s = true) :
    Calls Tryz.prog 126 #[.string ⟨s.toArray⟩] w fun e w' => e = .returned (.string ⟨(wrB true s).toArray⟩) ∧ Below w.heap.size w w' := by
  have k1 := Text_any s w hs hE
  rw [hv] at k1
  obtain ⟨ANS, hA⟩ : ∃ ANS, wrB true s = ANS := ⟨_, rfl⟩
  rw [hA]
  have HA := Lib.hid hA
  clear hA hv
  obtain ⟨i0, hi0, hz0, hz1, hz2⟩ := info_parts Tryz.infoByte
  go_enter Tryz.func126, Tryz.ntmps126
  go_wp2_with (go_at_call 208; refine Calls.mono (show Calls _ _ _ _ _ from k1) ?_; rintro e w1 ⟨rfl, hb1⟩)
  go_loopw [3, 14] (fun v i wr => WRel w s ANS v i wr) (fun _ i _ => s.length - (RowKit.intOf i).toNat)
  case atStart => exact ⟨0, [], rfl, by omega, by simp, World.ownsRow_nil _ _ _ _, hb1, HA.out⟩
  case round =>
    clear HA k1 hb1
    obtain ⟨k, o, rfl, hk, ho, hown, hbe, hans⟩ := hrel
    have hsz := hbe.size
    by_cases hkl : k < s.length
    · obtain ⟨x, hx⟩ : ∃ x, s[k] = x := ⟨_, rfl⟩
      have hbx : ∀ h', (⟨s.toArray⟩ : ByteArray)[k]'h' = x := fun h' => hx
      rw [List.drop_eq_getElem_cons hkl, hx, wrB] at hans
      have hdn : (s.drop (k + 1) = []) ↔ k = s.length - 1 := by rw [List.drop_eq_nil_iff]; omega
      have x0b : ((x.toNat : Int) == 0) = (x == 0) := (beq_nat _ 0).trans (u8_beq x 0 (by decide)).symm
      have x35 : ((x.toNat : Int) == 35) = (x == 35) := (beq_nat _ 35).trans (u8_beq x 35 (by decide)).symm
      have x32 : ((x.toNat : Int) == 32) = (x == 32) := (beq_nat _ 32).trans (u8_beq x 32 (by decide)).symm
      have k0 : ((k : Int) == 0) = decide (k = 0) := by rw [show ((k : Int) == 0) = ((k : Int) == ((0 : Nat) : Int)) from rfl, beq_nat]; rfl
      have kl : ((k : Int) == (s.length : Int) - 1) = decide (k = s.length - 1) := by rw [show ((s.length : Int) - 1) = ((s.length - 1 : Nat) : Int) by omega, beq_nat]; rfl
      have ks := (Spc_l x wr).mono (R' := fun e w' => e = .returned (.int .i64 (indexByte specL x)) ∧ wr = w') fun e w' hh => ⟨hh.1, hh.2.symm⟩
      have hm := mem_index specL x
      obtain ⟨V, hV⟩ : ∃ V, indexByte specL x = V := ⟨_, rfl⟩
      rw [hV] at ks hm
      have hm2 : decide (V ≥ 0) = decide (x ∈ specL) := hm
      clear hV
      by_cases x0 : x = 0
      · rw [show (x == 0) = true by simpa using x0] at x0b
        rw [if_pos x0] at hans
        have HS := Lib.hid hans
        clear hans
        go_wp2_with (at_builtin; refine Lib.wpList_append_own_string _ rfl _ _ 153 9 rfl w.heap.size 5 i0 Tryz.underlying153 Tryz.underlying9 hi0 hz0 hz1 hz2 _ _ _ rfl hown ⟨#[92, 48, 48]⟩ rfl ?c3 ?c4 ?c5 ?_)
        case c3 => unfold maxLen; simp [ByteArray.size]; omega
        case c4 => simp [ByteArray.size]; omega
        case c5 => omega
        intro v' w7 ho7 hg7 _
        go_wp2_with fail
        go_roundw
        case rel =>
          refine ⟨k + 1, o ++ [92, 48, 48], by go_num, by omega, by simp; omega, ?_, ?_, ?_⟩
          · rw [List.length_append, bV_append]
            exact ho7
          · exact hbe.grown hg7 (by omega) (fun b hb => (hown.lt b hb).1)
          · rw [show decide (k + 1 = 0) = false from rfl]
            rw [← HS.out]
            simp
        case measure => simp [RowKit.intOf]; omega
      · rw [show (x == 0) = false by simpa using x0] at x0b
        rw [if_neg x0] at hans
        by_cases xs : x ∈ specL
        · rw [if_pos (.inl xs)] at hans
          rw [decide_eq_true xs] at hm hm2
          clear x35 x32 k0 kl
          have HS := Lib.hid hans
          clear hans
          go_wp2_with (first | (go_at_call 210; refine Calls.mono (show Calls _ _ _ _ _ from ks) ?_; rintro e w6 ⟨rfl, rfl⟩) | (at_builtin; refine wpList_append_own _ rfl (.tmp 48) (.tmp 49) 153 rfl w.heap.size 5 i0 (.int .u8 0) 1 1 Tryz.underlying153 hi0 hz0 hz1 hz2 rfl (by decide) u3 o.length (bV o) rfl (hown.alloc _) ⟨wr.heap.size, 0, none⟩ 1 1 [.int .u8 ((92 : UInt8).toNat : Int)] rfl rfl (cell_one_new _ _ _) ?d2 ?d3 ?d4 ?d5 ?_))
          case d2 => intro u hu; simp at hu; subst hu; rfl
          case d3 => unfold maxLen; (try simp); omega
          case d4 => (try simp); omega
          case d5 => simp; omega
          intro v' w7 ho7 hg7 _
          have hown7 : w7.ownsRow w.heap.size 5 1 v' (o ++ [92]).length (bV (o ++ [92])) := by
            rw [List.length_append, bV_append]
            exact ho7
          have hbe7 : Below w.heap.size w w7 := (hbe.alloc hsz _).grown hg7 (by simp; omega) (fun b hb => (hown.lt b hb).1)
          have hsz7 := hbe7.size
          clear ho7 hg7
          go_wp2_with (at_builtin; refine wpList_append_own _ rfl (.tmp 51) (.tmp 53) 153 rfl w.heap.size 5 i0 (.int .u8 0) 1 1 Tryz.underlying153 hi0 hz0 hz1 hz2 rfl (by decide) v' (o ++ [92]).length (bV (o ++ [92])) rfl (hown7.alloc _) ⟨w7.heap.size, 0, none⟩ 1 1 [.int .u8 (x.toNat : Int)] rfl rfl (cell_one_new _ _ _) ?d2 ?d3 ?d4 ?d5 ?_)
          case d2 => intro u hu; simp at hu; subst hu; rfl
          case d3 => unfold maxLen; (try simp); omega
          case d4 => (try simp); omega
          case d5 => simp; omega
          intro v8 w8 ho8 hg8 _
          have ho9 : w8.ownsRow w.heap.size 5 1 v8 (o ++ [92, x]).length (bV (o ++ [92, x])) := by
            rw [show o ++ [92, x] = (o ++ [92]) ++ [x] by simp, bV_append]
            rw [show (((o ++ [92]) ++ [x] : List UInt8)).length = o.length + 1 + 1 by simp]
            first | exact ho8 | (simp only [List.length_append, List.length_cons, List.length_nil, Nat.zero_add] at ho8; exact ho8)
          clear ho8
          go_wp2_with fail
          go_roundw
          case rel =>
            refine ⟨k + 1, o ++ [92, x], by (first | rfl | go_num), by omega, by simp; omega, ho9, ?_, ?_⟩
            · exact (hbe7.alloc hsz7 _).grown hg8 (by simp; omega) (fun b hb => (hown7.lt b hb).1)
            · rw [show decide (k + 1 = 0) = false from rfl]
              rw [← HS.out]
              simp
          case measure => simp [RowKit.intOf]; omega
        · rw [decide_eq_false xs] at hm hm2
          by_cases kz : k = 0
          · subst kz
            by_cases xa : x = 35
            · rw [if_pos (.inr (.inl ⟨rfl, .inl xa⟩))] at hans
              subst xa
              clear x32 k0 kl x35 x0b
              have HS := Lib.hid hans
              clear hans
              go_wp2_with (first | (go_at_call 210; refine Calls.mono (show Calls _ _ _ _ _ from ks) ?_; rintro e w6 ⟨rfl, rfl⟩) | (at_builtin; refine wpList_append_own _ rfl (.tmp 48) (.tmp 49) 153 rfl w.heap.size 5 i0 (.int .u8 0) 1 1 Tryz.underlying153 hi0 hz0 hz1 hz2 rfl (by decide) u3 o.length (bV o) rfl (hown.alloc _) ⟨wr.heap.size, 0, none⟩ 1 1 [.int .u8 ((92 : UInt8).toNat : Int)] rfl rfl (cell_one_new _ _ _) ?d2 ?d3 ?d4 ?d5 ?_))
              case d2 => intro u hu; simp at hu; subst hu; rfl
              case d3 => unfold maxLen; (try simp); omega
              case d4 => (try simp); omega
              case d5 => simp; omega
              intro v' w7 ho7 hg7 _
              have hown7 : w7.ownsRow w.heap.size 5 1 v' (o ++ [92]).length (bV (o ++ [92])) := by
                rw [List.length_append, bV_append]
                exact ho7
              have hbe7 : Below w.heap.size w w7 := (hbe.alloc hsz _).grown hg7 (by simp; omega) (fun b hb => (hown.lt b hb).1)
              have hsz7 := hbe7.size
              clear ho7 hg7
              go_wp2_with (at_builtin; refine wpList_append_own _ rfl (.tmp 51) (.tmp 53) 153 rfl w.heap.size 5 i0 (.int .u8 0) 1 1 Tryz.underlying153 hi0 hz0 hz1 hz2 rfl (by decide) v' (o ++ [92]).length (bV (o ++ [92])) rfl (hown7.alloc _) ⟨w7.heap.size, 0, none⟩ 1 1 [.int .u8 ((35 : UInt8).toNat : Int)] rfl rfl (cell_one_new _ _ _) ?d2 ?d3 ?d4 ?d5 ?_)
              case d2 => intro u hu; simp at hu; subst hu; rfl
              case d3 => unfold maxLen; (try simp); omega
              case d4 => (try simp); omega
              case d5 => simp; omega
              intro v8 w8 ho8 hg8 _
              have ho9 : w8.ownsRow w.heap.size 5 1 v8 (o ++ [92, (35 : UInt8)]).length (bV (o ++ [92, (35 : UInt8)])) := by
                rw [show o ++ [92, (35 : UInt8)] = (o ++ [92]) ++ [(35 : UInt8)] by simp, bV_append]
                rw [show (((o ++ [92]) ++ [(35 : UInt8)] : List UInt8)).length = o.length + 1 + 1 by simp]
                first | exact ho8 | (simp only [List.length_append, List.length_cons, List.length_nil, Nat.zero_add] at ho8; exact ho8)
              clear ho8
              go_wp2_with fail
              go_roundw
              case rel =>
                refine ⟨0 + 1, o ++ [92, (35 : UInt8)], by (first | rfl | go_num), by omega, by simp; omega, ho9, ?_, ?_⟩
                · exact (hbe7.alloc hsz7 _).grown hg8 (by simp; omega) (fun b hb => (hown7.lt b hb).1)
                · rw [show decide (0 + 1 = 0) = false from rfl]
                  rw [← HS.out]
                  simp
              case measure => simp [RowKit.intOf]; omega
            · by_cases xb : x = 32
              · rw [if_pos (.inr (.inl ⟨rfl, .inr xb⟩))] at hans
                subst xb
                clear x32 k0 kl x35 x0b
                have HS := Lib.hid hans
                clear hans
                go_wp2_with (first | (go_at_call 210; refine Calls.mono (show Calls _ _ _ _ _ from ks) ?_; rintro e w6 ⟨rfl, rfl⟩) | (at_builtin; refine wpList_append_own _ rfl (.tmp 48) (.tmp 49) 153 rfl w.heap.size 5 i0 (.int .u8 0) 1 1 Tryz.underlying153 hi0 hz0 hz1 hz2 rfl (by decide) u3 o.length (bV o) rfl (hown.alloc _) ⟨wr.heap.size, 0, none⟩ 1 1 [.int .u8 ((92 : UInt8).toNat : Int)] rfl rfl (cell_one_new _ _ _) ?d2 ?d3 ?d4 ?d5 ?_))
                case d2 => intro u hu; simp at hu; subst hu; rfl
                case d3 => unfold maxLen; (try simp); omega
                case d4 => (try simp); omega
                case d5 => simp; omega
                intro v' w7 ho7 hg7 _
                have hown7 : w7.ownsRow w.heap.size 5 1 v' (o ++ [92]).length (bV (o ++ [92])) := by
                  rw [List.length_append, bV_append]
                  exact ho7
                have hbe7 : Below w.heap.size w w7 := (hbe.alloc hsz _).grown hg7 (by simp; omega) (fun b hb => (hown.lt b hb).1)
                have hsz7 := hbe7.size
                clear ho7 hg7
                go_wp2_with (at_builtin; refine wpList_append_own _ rfl (.tmp 51) (.tmp 53) 153 rfl w.heap.size 5 i0 (.int .u8 0) 1 1 Tryz.underlying153 hi0 hz0 hz1 hz2 rfl (by decide) v' (o ++ [92]).length (bV (o ++ [92])) rfl (hown7.alloc _) ⟨w7.heap.size, 0, none⟩ 1 1 [.int .u8 ((32 : UInt8).toNat : Int)] rfl rfl (cell_one_new _ _ _) ?d2 ?d3 ?d4 ?d5 ?_)
                case d2 => intro u hu; simp at hu; subst hu; rfl
                case d3 => unfold maxLen; (try simp); omega
                case d4 => (try simp); omega
                case d5 => simp; omega
                intro v8 w8 ho8 hg8 _
                have ho9 : w8.ownsRow w.heap.size 5 1 v8 (o ++ [92, (32 : UInt8)]).length (bV (o ++ [92, (32 : UInt8)])) := by
                  rw [show o ++ [92, (32 : UInt8)] = (o ++ [92]) ++ [(32 : UInt8)] by simp, bV_append]
                  rw [show (((o ++ [92]) ++ [(32 : UInt8)] : List UInt8)).length = o.length + 1 + 1 by simp]
                  first | exact ho8 | (simp only [List.length_append, List.length_cons, List.length_nil, Nat.zero_add] at ho8; exact ho8)
                clear ho8
                go_wp2_with fail
                go_roundw
                case rel =>
                  refine ⟨0 + 1, o ++ [92, (32 : UInt8)], by (first | rfl | go_num), by omega, by simp; omega, ho9, ?_, ?_⟩
                  · exact (hbe7.alloc hsz7 _).grown hg8 (by simp; omega) (fun b hb => (hown7.lt b hb).1)
                  · rw [show decide (0 + 1 = 0) = false from rfl]
                    rw [← HS.out]
                    simp
                case measure => simp [RowKit.intOf]; omega
              · rw [show (x == 35) = false by simpa using xa] at x35
                rw [show (x == 32) = false by simpa using xb] at x32
                rw [if_neg (by
                  rintro (hh | ⟨hh, hh2⟩ | ⟨hh, hh2⟩)
                  · exact xs hh
                  · rcases hh2 with hh2 | hh2
                    · exact xa hh2
                    · exact xb hh2
                  · exact xb hh2)] at hans
                clear k0
                by_cases l1 : s.length = 1
                · obtain ⟨L, hL⟩ : ∃ L : Int, (s.length : Int) - 1 = L := ⟨_, rfl⟩
                  have kL : ((0 : Int) == L) = true := by rw [← hL, l1]; rfl
                  clear kl l1
                  have HS := Lib.hid hans
                  clear hans
                  go_wp2_with (first | (go_at_call 210; refine Calls.mono (show Calls _ _ _ _ _ from ks) ?_; rintro e w6 ⟨rfl, rfl⟩) | (at_builtin; refine wpList_append_own _ rfl (.tmp 51) (.tmp 53) 153 rfl w.heap.size 5 i0 (.int .u8 0) 1 1 Tryz.underlying153 hi0 hz0 hz1 hz2 rfl (by decide) u3 o.length (bV o) rfl (hown.alloc _) ⟨wr.heap.size, 0, none⟩ 1 1 [.int .u8 (x.toNat : Int)] rfl rfl (cell_one_new _ _ _) ?d2 ?d3 ?d4 ?d5 ?_))
                  case d2 => intro u hu; simp at hu; subst hu; rfl
                  case d3 => unfold maxLen; (try simp); omega
                  case d4 => (try simp); omega
                  case d5 => simp; omega
                  intro v' w7 ho7 hg7 _
                  go_wp2_with fail
                  go_roundw
                  case rel =>
                    refine ⟨0 + 1, o ++ [x], by (first | rfl | go_num), by omega, by simp; omega, ?_, ?_, ?_⟩
                    · rw [List.length_append, bV_append]
                      exact ho7
                    · exact (hbe.alloc hsz _).grown hg7 (by simp; omega) (fun b hb => (hown.lt b hb).1)
                    · rw [show decide (0 + 1 = 0) = false from rfl]
                      rw [← HS.out]
                      simp
                  case measure => simp [RowKit.intOf]; omega
                · rw [decide_eq_false (show ¬ 0 = s.length - 1 by omega)] at kl
                  have HS := Lib.hid hans
                  clear hans
                  go_wp2_with (first | (go_at_call 210; refine Calls.mono (show Calls _ _ _ _ _ from ks) ?_; rintro e w6 ⟨rfl, rfl⟩) | (at_builtin; refine wpList_append_own _ rfl (.tmp 51) (.tmp 53) 153 rfl w.heap.size 5 i0 (.int .u8 0) 1 1 Tryz.underlying153 hi0 hz0 hz1 hz2 rfl (by decide) u3 o.length (bV o) rfl (hown.alloc _) ⟨wr.heap.size, 0, none⟩ 1 1 [.int .u8 (x.toNat : Int)] rfl rfl (cell_one_new _ _ _) ?d2 ?d3 ?d4 ?d5 ?_))
                  case d2 => intro u hu; simp at hu; subst hu; rfl
                  case d3 => unfold maxLen; (try simp); omega
                  case d4 => (try simp); omega
                  case d5 => simp; omega
                  intro v' w7 ho7 hg7 _
                  go_wp2_with fail
                  go_roundw
                  case rel =>
                    refine ⟨0 + 1, o ++ [x], by (first | rfl | go_num), by omega, by simp; omega, ?_, ?_, ?_⟩
                    · rw [List.length_append, bV_append]
                      exact ho7
                    · exact (hbe.alloc hsz _).grown hg7 (by simp; omega) (fun b hb => (hown.lt b hb).1)
                    · rw [show decide (0 + 1 = 0) = false from rfl]
                      rw [← HS.out]
                      simp
                  case measure => simp [RowKit.intOf]; omega
          · rw [decide_eq_false kz] at k0
            by_cases xl : k = s.length - 1
            · have hL : (s.length : Int) - 1 = (k : Int) := by omega
              clear kl
              by_cases xb : x = 32
              · rw [if_pos (.inr (.inr ⟨hdn.2 xl, xb⟩))] at hans
                subst xb
                clear x32 x35 x0b xl
                have HS := Lib.hid hans
                clear hans
                go_wp2_with (first | (go_at_call 210; refine Calls.mono (show Calls _ _ _ _ _ from ks) ?_; rintro e w6 ⟨rfl, rfl⟩) | (at_builtin; refine wpList_append_own _ rfl (.tmp 48) (.tmp 49) 153 rfl w.heap.size 5 i0 (.int .u8 0) 1 1 Tryz.underlying153 hi0 hz0 hz1 hz2 rfl (by decide) u3 o.length (bV o) rfl (hown.alloc _) ⟨wr.heap.size, 0, none⟩ 1 1 [.int .u8 ((92 : UInt8).toNat : Int)] rfl rfl (cell_one_new _ _ _) ?d2 ?d3 ?d4 ?d5 ?_))
                case d2 => intro u hu; simp at hu; subst hu; rfl
                case d3 => unfold maxLen; (try simp); omega
                case d4 => (try simp); omega
                case d5 => simp; omega
                intro v' w7 ho7 hg7 _
                have hown7 : w7.ownsRow w.heap.size 5 1 v' (o ++ [92]).length (bV (o ++ [92])) := by
                  rw [List.length_append, bV_append]
                  exact ho7
                have hbe7 : Below w.heap.size w w7 := (hbe.alloc hsz _).grown hg7 (by simp; omega) (fun b hb => (hown.lt b hb).1)
                have hsz7 := hbe7.size
                clear ho7 hg7
                go_wp2_with (at_builtin; refine wpList_append_own _ rfl (.tmp 51) (.tmp 53) 153 rfl w.heap.size 5 i0 (.int .u8 0) 1 1 Tryz.underlying153 hi0 hz0 hz1 hz2 rfl (by decide) v' (o ++ [92]).length (bV (o ++ [92])) rfl (hown7.alloc _) ⟨w7.heap.size, 0, none⟩ 1 1 [.int .u8 ((32 : UInt8).toNat : Int)] rfl rfl (cell_one_new _ _ _) ?d2 ?d3 ?d4 ?d5 ?_)
                case d2 => intro u hu; simp at hu; subst hu; rfl
                case d3 => unfold maxLen; (try simp); omega
                case d4 => (try simp); omega
                case d5 => simp; omega
                intro v8 w8 ho8 hg8 _
                have ho9 : w8.ownsRow w.heap.size 5 1 v8 (o ++ [92, (32 : UInt8)]).length (bV (o ++ [92, (32 : UInt8)])) := by
                  rw [show o ++ [92, (32 : UInt8)] = (o ++ [92]) ++ [(32 : UInt8)] by simp, bV_append]
                  rw [show (((o ++ [92]) ++ [(32 : UInt8)] : List UInt8)).length = o.length + 1 + 1 by simp]
                  first | exact ho8 | (simp only [List.length_append, List.length_cons, List.length_nil, Nat.zero_add] at ho8; exact ho8)
                clear ho8
                go_wp2_with fail
                go_roundw
                case rel =>
                  refine ⟨k + 1, o ++ [92, (32 : UInt8)], by (first | rfl | go_num), by omega, by simp; omega, ho9, ?_, ?_⟩
                  · exact (hbe7.alloc hsz7 _).grown hg8 (by simp; omega) (fun b hb => (hown7.lt b hb).1)
                  · rw [show decide (k + 1 = 0) = false from rfl]
                    rw [← HS.out]
                    simp
                case measure => simp [RowKit.intOf]; omega
              · rw [show (x == 32) = false by simpa using xb] at x32
                rw [if_neg (by
                  rintro (hh | ⟨hh, hh2⟩ | ⟨hh, hh2⟩)
                  · exact xs hh
                  · exact kz (of_decide_eq_true hh)
                  · exact xb hh2)] at hans
                clear x35 xl
                have HS := Lib.hid hans
                clear hans
                go_wp2_with (first | (go_at_call 210; refine Calls.mono (show Calls _ _ _ _ _ from ks) ?_; rintro e w6 ⟨rfl, rfl⟩) | (at_builtin; refine wpList_append_own _ rfl (.tmp 51) (.tmp 53) 153 rfl w.heap.size 5 i0 (.int .u8 0) 1 1 Tryz.underlying153 hi0 hz0 hz1 hz2 rfl (by decide) u3 o.length (bV o) rfl (hown.alloc _) ⟨wr.heap.size, 0, none⟩ 1 1 [.int .u8 (x.toNat : Int)] rfl rfl (cell_one_new _ _ _) ?d2 ?d3 ?d4 ?d5 ?_))
                case d2 => intro u hu; simp at hu; subst hu; rfl
                case d3 => unfold maxLen; (try simp); omega
                case d4 => (try simp); omega
                case d5 => simp; omega
                intro v' w7 ho7 hg7 _
                go_wp2_with fail
                go_roundw
                case rel =>
                  refine ⟨k + 1, o ++ [x], by (first | rfl | go_num), by omega, by simp; omega, ?_, ?_, ?_⟩
                  · rw [List.length_append, bV_append]
                    exact ho7
                  · exact (hbe.alloc hsz _).grown hg7 (by simp; omega) (fun b hb => (hown.lt b hb).1)
                  · rw [show decide (k + 1 = 0) = false from rfl]
                    rw [← HS.out]
                    simp
                case measure => simp [RowKit.intOf]; omega
            · rw [decide_eq_false xl] at kl
              rw [if_neg (by
                rintro (hh | ⟨hh, hh2⟩ | ⟨hh, hh2⟩)
                · exact xs hh
                · exact kz (of_decide_eq_true hh)
                · exact xl (hdn.1 hh))] at hans
              clear x35 x32
              have HS := Lib.hid hans
              clear hans
              go_wp2_with (first | (go_at_call 210; refine Calls.mono (show Calls _ _ _ _ _ from ks) ?_; rintro e w6 ⟨rfl, rfl⟩) | (at_builtin; refine wpList_append_own _ rfl (.tmp 51) (.tmp 53) 153 rfl w.heap.size 5 i0 (.int .u8 0) 1 1 Tryz.underlying153 hi0 hz0 hz1 hz2 rfl (by decide) u3 o.length (bV o) rfl (hown.alloc _) ⟨wr.heap.size, 0, none⟩ 1 1 [.int .u8 (x.toNat : Int)] rfl rfl (cell_one_new _ _ _) ?d2 ?d3 ?d4 ?d5 ?_))
              case d2 => intro u hu; simp at hu; subst hu; rfl
              case d3 => unfold maxLen; (try simp); omega
              case d4 => (try simp); omega
              case d5 => simp; omega
              intro v' w7 ho7 hg7 _
              go_wp2_with fail
              go_roundw
              case rel =>
                refine ⟨k + 1, o ++ [x], by (first | rfl | go_num), by omega, by simp; omega, ?_, ?_, ?_⟩
                · rw [List.length_append, bV_append]
                  exact ho7
                · exact (hbe.alloc hsz _).grown hg7 (by simp; omega) (fun b hb => (hown.lt b hb).1)
                · rw [show decide (k + 1 = 0) = false from rfl]
                  rw [← HS.out]
                  simp
              case measure => simp [RowKit.intOf]; omega
    · obtain rfl : k = s.length := by omega
      rw [List.drop_of_length_le (Nat.le_refl _)] at hans
      rw [show wrB (decide (s.length = 0)) [] = [] from by cases (decide (s.length = 0)) <;> rfl, List.append_nil] at hans
      subst hans
      have hcv := run_str_own (P := Tryz.prog) wr 153 9 5 w.heap.size u3 o Tryz.underlying153 Tryz.underlying5 Tryz.underlying9 hown
      go_wp2_with fail
      go_ret
      exact ⟨rfl, hbe⟩
end Go.Proofs.YtegigcneimjimaaGreatDoor
