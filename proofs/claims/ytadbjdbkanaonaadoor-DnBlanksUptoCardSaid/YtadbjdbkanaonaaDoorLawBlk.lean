/- dn.PrintRdn; chancerylaw4: the law DnBlanks. -/
import Derived.Test.YtadbjdbkanaonaaDoorDnS
import Derived.Test.YtadbjdbkanaonaaDoorDnAl
import Derived.Test.YtadbjdbkanaonaaDoorPlainBlk
import Derived.Deep.CutRange
namespace Go.Proofs.YtadbjdbkanaonaaDoor
open Go.RowKit Go.Lib

theorem dnAt_one (w : World) (v : Value) (r : List Av) (h : AvsAt w v r) : DnAt (w.alloc (.cells #[v] 29)) (.slice (some ⟨w.heap.size, 0, none⟩) 1 1) [r] := by
  refine ⟨_, 1, rfl, Nat.le_refl _, fun _ => ⟨w.heap.size, 0, rfl, fun j x hj => ?_⟩⟩
  match j, hj with
  | 0, hj =>
    simp at hj
    subst hj
    exact ⟨v, by rw [Nat.add_zero, Lib.cell_of_heap (alloc_at _ _ _ rfl)]; rfl, h.below ((Below.refl _ _).alloc (Nat.le_refl _) _)⟩
  | j + 1, hj => simp at hj
theorem avsAt_one (w : World) (a : Av) : AvsAt (w.alloc (.cells #[.string ⟨a.1.toArray⟩, .string ⟨a.2.toArray⟩] 32)) (.slice (some ⟨w.heap.size, 0, none⟩) 1 1) [a] := by
  refine ⟨_, 1, rfl, Nat.le_refl _, fun _ => ⟨w.heap.size, 0, rfl, fun j x hj => ?_⟩⟩
  match j, hj with
  | 0, hj =>
    simp at hj
    subst hj
    have hb := alloc_at w (.cells #[.string ⟨a.1.toArray⟩, .string ⟨a.2.toArray⟩] 32) _ rfl
    exact ⟨by rw [Lib.cell_of_heap hb]; rfl, by rw [Lib.cell_of_heap hb]; rfl⟩
  | j + 1, hj => simp at hj
set_option maxRecDepth 100000 in
set_option maxHeartbeats 2000000 in
theorem PrintRdn_any (v : Value) (r : List Av) (w : World) (h : AvsAt w v r) (hE : Env w) (hok : ∀ a ∈ r, a.1.length ≤ 140737488355328) (hrl : r.length ≤ 140737488355328) :
    Calls Tryd.prog 6 #[v] w fun e w' => e = .returned (.tuple #[.string ⟨(printB [r]).1.toArray⟩, .int .i64 (printB [r]).2]) ∧ Below w.heap.size w w' := by
  have hbA := (Below.refl w.heap.size w).alloc (Nat.le_refl _) (.cells #[v] 29)
  have k := Print_any _ [r] _ (dnAt_one w v r h) (hE.below hbA) (fun x hx => by simp at hx; subst hx; exact hok) (by simp) (fun x hx => by simp at hx; subst hx; exact hrl)
  obtain ⟨q, n, hqn⟩ : ∃ q n, printB [r] = (q, n) := ⟨_, _, rfl⟩
  rw [hqn] at k ⊢
  simp only at k ⊢
  obtain ⟨a, c, hv, _, _⟩ := h
  subst hv
  clear hok hqn
  go_enter Tryd.func6, Tryd.ntmps6
  go_wp2_with (go_at_call 5; refine Calls.mono (show Calls _ _ _ _ _ from k) ?_; rintro e w1 ⟨rfl, hb1⟩)
  go_ret2
  exact ⟨rfl, below_ext hbA hb1⟩
theorem print_one (a : Av) (ht : isTyB a.1 = true) (hv : a.2.length ≤ 1024) : printB [[a]] = (avB a, 0) := by
  have h1 := isTy_len ht
  have h2 := writtenB_length a.2
  unfold printB
  rw [if_neg (by simp [rightB, ht]), if_neg (by simp [longB]; omega), if_neg (by simp [joinB, partB, avB]; omega)]
  simp [joinB, partB]
theorem print_ok {d : List (List Av)} {t : List UInt8} (h : printB d = (t, 0)) : ∀ r ∈ d, ∀ a ∈ r, isTyB a.1 = true ∧ a.2.length ≤ 1024 := by
  unfold printB at h
  split at h
  · cases h
  · rename_i hr
    have hr : rightB d = true := by simpa using hr
    split at h
    · cases h
    · rename_i hl
      intro r hrm a ha
      have h1 := List.all_eq_true.1 hr r hrm
      rw [Bool.and_eq_true, List.all_eq_true] at h1
      refine ⟨h1.2 a ha, ?_⟩
      have hl2 : longB d = false := by simpa using hl
      unfold longB at hl2
      simp only [Bool.or_eq_false_iff, decide_eq_false_iff_not, List.any_eq_false, Bool.or_eq_true, decide_eq_true_eq, not_or] at hl2
      have := (hl2.2 r hrm).2
      simp only [List.any_eq_true, decide_eq_true_eq, not_exists, not_and] at this
      have := this a ha
      omega
theorem bl_cut (n : Nat) (h : n ≤ 3) : (⟨#[32, 32, 32]⟩ : ByteArray).extract 0 n = ⟨(bl n).toArray⟩ := by
  have : ∀ i : Fin 4, (⟨#[32, 32, 32]⟩ : ByteArray).extract 0 i.val = ⟨(bl i.val).toArray⟩ := by decide +kernel
  exact this ⟨n, by omega⟩
theorem bl_length (n : Nat) : (bl n).length = n := by simp [bl]
theorem mk_app (a b : List UInt8) : (⟨a.toArray⟩ ++ ⟨b.toArray⟩ : ByteArray) = ⟨(a ++ b).toArray⟩ := by
  apply ByteArray.ext
  simp [ByteArray.data_append]
theorem cut_first (a b : List UInt8) : (⟨(a ++ b).toArray⟩ : ByteArray).extract 0 a.length = ⟨a.toArray⟩ := by rw [extract_mk]; simp
theorem cut_rest (a b : List UInt8) (n : Nat) (hn : n = a.length) : (⟨(a ++ b).toArray⟩ : ByteArray).extract n (a ++ b).length = ⟨b.toArray⟩ := by subst hn; rw [extract_mk]; simp
def BO (w : World) (N : Nat) (d : List (List Av)) (s i : Value) (wr : World) : Prop := ∃ k : Nat, i = .int .i64 (k : Int) ∧ k ≤ d.length ∧ s = .string ⟨(upTo N d k).toArray⟩ ∧ Below w.heap.size w wr
def BI (w : World) (N : Nat) (x : List Av) (S0 : List UInt8) (s i : Value) (wr : World) : Prop := ∃ k : Nat, i = .int .i64 (k : Int) ∧ k ≤ x.length ∧ s = .string ⟨(S0 ++ inTo N x k).toArray⟩ ∧ Below w.heap.size w wr
set_option maxRecDepth 100000 in
set_option maxHeartbeats 4000000 in
theorem DnBlanks_any (v : Value) (d : List (List Av)) (n : Int) (w : World) (h : DnAt w v d) (hd : d.length ≤ 140737488355328) (hr : ∀ r ∈ d, r.length ≤ 140737488355328) (ha : ∀ r ∈ d, ∀ a ∈ r, a.1.length ≤ 140737488355328) (hE : Env w) :
    Calls Tryd.prog 3 #[v, .int .i64 n] w fun e w' => e = .returned (.bool true) ∧ Below w.heap.size w w' := by
  have HH := Lib.hid h
  obtain ⟨av, cv, hve, hcv, hxv⟩ := id h
  subst hve
  have HR := Lib.hid hr
  have HAl := Lib.hid ha
  clear hxv hr ha
  by_cases hbig : 20 < d.length ∨ n < 0 ∨ 3 < n
  · have k := alive_any w hE
    have q0 : decide ((20 : Int) < (d.length : Int)) = true ∨ (decide ((20 : Int) < (d.length : Int)) = false ∧ decide (n < 0) = true) ∨ (decide ((20 : Int) < (d.length : Int)) = false ∧ decide (n < 0) = false ∧ decide (3 < n) = true) := by simp; omega
    rcases q0 with q0 | ⟨q0, q1⟩ | ⟨q0, q1, q2⟩
    all_goals
      go_enter Tryd.func3, Tryd.ntmps3
      go_wp2_with (go_at_call 4; refine k.mono ?_; rintro e w1 ⟨rfl, hb1⟩)
      go_ret
      exact ⟨rfl, hb1⟩
  · obtain ⟨N, rfl⟩ : ∃ N : Nat, n = (N : Int) := ⟨n.toNat, by omega⟩
    have hN : N ≤ 3 := by omega
    have hd20 : d.length ≤ 20 := by omega
    have q0 : decide ((20 : Int) < (d.length : Int)) = false := decide_eq_false (by omega)
    have q1 : decide ((N : Int) < 0) = false := decide_eq_false (by omega)
    have q2 : decide ((3 : Int) < (N : Int)) = false := decide_eq_false (by omega)
    have q3 : (N : Int) ≤ 3 := by omega
    clear hbig
    have k1 := Print_any _ d w h hE HAl.out hd HR.out
    obtain ⟨t, m, htm⟩ : ∃ t m, printB d = (t, m) := ⟨_, _, rfl⟩
    rw [htm] at k1
    simp only at k1
    by_cases hbad : m ≠ 0 ∨ 60000 < t.length
    · have kA := fun w1 hb => alive_any w1 (hE.below hb)
      have r0 : (m != 0) = true ∨ ((m != 0) = false ∧ decide ((60000 : Int) < (t.length : Int)) = true) := by simp; omega
      rcases r0 with r0 | ⟨r0, r1⟩
      · have r2 : m ≠ 0 := by simpa using r0
        have r3 : (m == 0) = false := by simpa using r2
        go_enter Tryd.func3, Tryd.ntmps3
        go_wp2_with (first | (go_at_call 5; refine Calls.mono (show Calls _ _ _ _ _ from k1) ?_; rintro e w1 ⟨rfl, hb1⟩; have k2 := kA w1 hb1) | (go_at_call 4; refine k2.mono ?_; rintro e w2 ⟨rfl, hb2⟩))
        go_ret
        exact ⟨rfl, below_ext hb1 hb2⟩
      · obtain rfl : m = 0 := by simpa using r0
        go_enter Tryd.func3, Tryd.ntmps3
        go_wp2_with (first | (go_at_call 5; refine Calls.mono (show Calls _ _ _ _ _ from k1) ?_; rintro e w1 ⟨rfl, hb1⟩; have k2 := kA w1 hb1) | (go_at_call 4; refine k2.mono ?_; rintro e w2 ⟨rfl, hb2⟩))
        go_ret
        exact ⟨rfl, below_ext hb1 hb2⟩
    · have hm0 : m = 0 := by omega
      have ht6 : t.length ≤ 60000 := by omega
      subst hm0
      have r1 : decide ((60000 : Int) < (t.length : Int)) = false := decide_eq_false (by omega)
      have HO := Lib.hid (print_ok htm)
      have HPB := Lib.hid (parse_blanks d t N hN htm ht6)
      have hbl := bl_cut N hN
      have hBLl := bl_length N
      obtain ⟨BL, hBL⟩ : ∃ BL, bl N = BL := ⟨_, rfl⟩
      rw [hBL] at hbl hBLl
      have HBL := Lib.hid hBL
      have hBLn : BL.length ≤ 3 := by omega
      clear hbad htm hBL hBLl
      go_enter Tryd.func3, Tryd.ntmps3
      go_wp2_with (go_at_call 5; refine Calls.mono (show Calls _ _ _ _ _ from k1) ?_; rintro e w1 ⟨rfl, hb1⟩)
      clear k1
      go_loopw [7, 9] (fun s i wr => BO w N d s i wr) (fun _ i _ => d.length - (RowKit.intOf i).toNat)
      case atStart => exact ⟨0, rfl, by omega, by rw [upTo_zero], hb1⟩
      case round =>
        clear hb1
        obtain ⟨i, rfl, hi, rfl, hbe⟩ := hrel
        by_cases hil : i < d.length
        · obtain ⟨x, hx⟩ : ∃ x, d[i] = x := ⟨_, rfl⟩
          have hxk : d[i]? = some x := by rw [List.getElem?_eq_getElem hil, hx]
          have hmem : x ∈ d := List.mem_of_getElem? hxk
          have hr0 : d ≠ [] := by intro e; rw [e] at hil; simp at hil
          have hup := upTo_step N d i x hxk
          have hul := upTo_len N d (d.length - (i + 1)) (i + 1) (by omega)
          have hul2 := HPB.out.2.2
          obtain ⟨U, hU⟩ : ∃ U, upTo N d i = U := ⟨_, rfl⟩
          rw [hU] at hup ⊢
          obtain ⟨S0, hS0⟩ : ∃ S0, U ++ (if i = 0 then [] else sepN N 44) = S0 := ⟨_, rfl⟩
          rw [hS0] at hup
          rw [hup, List.length_append] at hul
          have hSl : S0.length + (inTo N x x.length).length ≤ 65536 := by omega
          have hUl : U.length ≤ 65536 := by rw [← hS0, List.length_append] at hSl; omega
          have HUP := Lib.hid hup
          have HXK := Lib.hid hxk
          have HM := Lib.hid hmem
          have HS0 := Lib.hid hS0
          have hxr := HR.out x hmem
          obtain ⟨a2, cap2, e2, _, hcell⟩ := id h
          obtain ⟨g, o, hag, _⟩ := hcell hr0
          cases e2
          subst hag
          have HR0 := Lib.hid hr0
          clear hcell hx hxk hmem hr0 hup hS0 hul hul2 hU
          have gi : (i : Int) < (d.length : Int) := by omega
          have gi2 : decide ((i : Int) < (d.length : Int)) = true := decide_eq_true gi
          go_upto_if 49 with fail
          go_cut [7] from 50 to 55 (fun s7 wx => s7 = .string ⟨S0.toArray⟩ ∧ wx = wr)
          case first =>
            by_cases hi0 : i = 0
            · have f1 : decide (0 < i) = false := decide_eq_false (by omega)
              have f1n : ¬ 0 < i := by omega
              have hS1 : U = S0 := by rw [← HS0.out, if_pos hi0, List.append_nil]
              have G := Lib.hid hS1
              clear hS1 hi0
              go_wp2_with fail
              go_meet
              exact ⟨by rw [G.out], rfl⟩
            · have f1 : decide ((0 : Int) < (i : Int)) = true := decide_eq_true (by omega)
              have f2 : (0 : Int) < (i : Int) := by omega
              have hcat : (⟨U.toArray⟩ ++ (⟨BL.toArray⟩ ++ ⟨#[44]⟩ ++ ⟨BL.toArray⟩) : ByteArray) = ⟨S0.toArray⟩ := by
                rw [show (⟨#[44]⟩ : ByteArray) = ⟨([44] : List UInt8).toArray⟩ from rfl, mk_app, mk_app, mk_app, ← HS0.out, if_neg hi0, sepN, HBL.out]
              clear hi0
              go_wp2_with fail
              go_meet
              exact ⟨rfl, rfl⟩
          case rest =>
            obtain ⟨rfl, rfl⟩ := hcut
            go_wp2_with fail
            go_loopw [7, 10] (fun s k wq => BI w N x S0 s k wq) (fun _ k _ => x.length - (RowKit.intOf k).toNat)
            case atStart => exact ⟨0, rfl, by omega, by rw [inTo_zero, List.append_nil], hbe⟩
            case round =>
              clear hbe
              obtain ⟨k, rfl, hk, rfl, hbq⟩ := hrel
              obtain ⟨a3, cap3, e3, _, hcell⟩ := HH.out.below hbq
              obtain ⟨g', o', hag, hcc⟩ := hcell HR0.out
              cases e3
              cases hag
              obtain ⟨u, p1, hu⟩ := hcc i x HXK.out
              have HU := Lib.hid hu
              obtain ⟨au, cu, hue, _, _⟩ := hu
              subst hue
              clear hcc hcell
              by_cases hkl : k < x.length
              · obtain ⟨y, hy⟩ : ∃ y, x[k] = y := ⟨_, rfl⟩
                have hyk : x[k]? = some y := by rw [List.getElem?_eq_getElem hkl, hy]
                have hymem : y ∈ x := List.mem_of_getElem? hyk
                have hx0 : x ≠ [] := by intro e; rw [e] at hkl; simp at hkl
                obtain ⟨hyt, hyv⟩ := HO.out x HM.out y hymem
                have hyl := isTy_len hyt
                have hst := inTo_step N x k y hyk
                have hil2 := inTo_len N x (x.length - (k + 1)) (k + 1) (by omega)
                obtain ⟨a4, cap4, e4, _, hcell4⟩ := HU.out
                obtain ⟨g4, o4, ha4, hcc4⟩ := hcell4 hx0
                cases e4
                subst ha4
                obtain ⟨p3, p4⟩ := hcc4 k y hyk
                rw [Nat.mul_comm] at p3 p4
                clear hcc4 hcell4 hy hyk hymem hx0
                have gk : (k : Int) < (x.length : Int) := by omega
                have gk2 : decide ((k : Int) < (x.length : Int)) = true := decide_eq_true gk
                obtain ⟨R, hRR⟩ : ∃ R, S0 ++ inTo N x k = R := ⟨_, rfl⟩
                obtain ⟨S1, hS1⟩ : ∃ S1, R ++ (if k = 0 then [] else sepN N 43) = S1 := ⟨_, rfl⟩
                have hnext : S0 ++ inTo N x (k + 1) = S1 ++ avN N y := by rw [hst, ← hS1, ← hRR]; simp
                have hlen1 : S1.length + (avN N y).length ≤ 65536 := by
                  have := congrArg List.length hnext
                  simp only [List.length_append] at this
                  omega
                have hRl : R.length ≤ 65536 := by rw [← hS1, List.length_append] at hlen1; omega
                rw [hRR]
                have HNX := Lib.hid hnext
                have HS1 := Lib.hid hS1
                have hbA := (Below.refl wr.heap.size wr).alloc (Nat.le_refl _) (.cells #[.string ⟨y.1.toArray⟩, .string ⟨y.2.toArray⟩] 32)
                have kpr := PrintRdn_any _ [y] _ (avsAt_one wr y) ((hE.below hbq).below hbA) (fun a ha => by simp at ha; subst ha; omega) (by simp)
                rw [print_one y hyt hyv] at kpr
                simp only at kpr
                have hal : avB y = y.1 ++ ([61] ++ writtenB y.2) := by simp [avB]
                have hwl := writtenB_length y.2
                obtain ⟨Wr, hWr⟩ : ∃ Wr, writtenB y.2 = Wr := ⟨_, rfl⟩
                have havN : avN N y = y.1 ++ BL ++ [61] ++ BL ++ Wr := by unfold avN; rw [HBL.out, hWr]
                rw [hWr] at hal hwl
                have hAl : (avB y).length = y.1.length + 1 + Wr.length := by rw [hal]; simp; omega
                have hc1 : (⟨(avB y).toArray⟩ : ByteArray).extract 0 y.1.length = ⟨y.1.toArray⟩ := by rw [hal]; exact cut_first _ _
                have hc2 : (⟨(avB y).toArray⟩ : ByteArray).extract (y.1.length + 1) (avB y).length = ⟨Wr.toArray⟩ := by
                  rw [hal, ← List.append_assoc]
                  exact cut_rest _ _ _ (by simp)
                obtain ⟨AV, hAV⟩ : ∃ AV, avB y = AV := ⟨_, rfl⟩
                rw [hAV] at kpr hc1 hc2 hAl
                have f1 : decide ((AV.length : Int) ≤ (y.1.length : Int)) = false := decide_eq_false (by omega)
                have f2 : (y.1.length : Int) ≤ (AV.length : Int) := by omega
                have f3 : (y.1.length : Int) + 1 ≤ (AV.length : Int) := by omega
                have f4 : IntKind.i64.wrap ((y.1.length : Int) + 1) = (y.1.length : Int) + 1 := wraps_i64 _ (by omega) (by omega)
                have f5 : ((y.1.length : Int) + 1).toNat = y.1.length + 1 := by omega
                have f6 : (0 : Int) ≤ (y.1.length : Int) + 1 := by omega
                have hAVl : AV.length ≤ 10000 := by omega
                have hWrl : Wr.length ≤ 10000 := by omega
                have hcat2 : (⟨S1.toArray⟩ ++ (⟨y.1.toArray⟩ ++ ⟨BL.toArray⟩ ++ ⟨#[61]⟩ ++ ⟨BL.toArray⟩ ++ ⟨Wr.toArray⟩) : ByteArray) = ⟨(S1 ++ avN N y).toArray⟩ := by
                  rw [show (⟨#[61]⟩ : ByteArray) = ⟨([61] : List UInt8).toArray⟩ from rfl, mk_app, mk_app, mk_app, mk_app, mk_app, havN]
                obtain ⟨S2, hS2⟩ : ∃ S2, S1 ++ avN N y = S2 := ⟨_, rfl⟩
                rw [hS2] at hcat2
                have HS2 := Lib.hid hS2
                have hS1l : S1.length ≤ 65536 := by omega
                clear hst hil2 hRR hnext hS1 hyt hyv hal hWr havN hAl hAV hS2 hwl
                go_upto_if 92 with (go_at_call 6; refine Calls.mono (show Calls _ _ _ _ _ from kpr) ?_; rintro e w4 ⟨rfl, hb4⟩; have hbw4 := below_ext hbA hb4; have t1 : w4.cell? ⟨g, o + i, none⟩ = some (.slice (some ⟨g4, o4, none⟩) x.length cu) := (hbw4.cell (lt_of_cell p1)).trans p1; have t3 : w4.cell? ⟨g4, o4 + k * 2, none⟩ = some (.string ⟨y.1.toArray⟩) := (hbw4.cell (lt_of_cell p3)).trans p3)
                go_upto_if 94 with fail
                go_cut [7] from 95 to 100 (fun s7 wx => s7 = .string ⟨S1.toArray⟩ ∧ wx = w4)
                case first =>
                  by_cases hk0 : k = 0
                  · have f7 : decide (0 < k) = false := decide_eq_false (by omega)
                    have f7n : ¬ 0 < k := by omega
                    have hS1 : R = S1 := by rw [← HS1.out, if_pos hk0, List.append_nil]
                    have G := Lib.hid hS1
                    clear hS1 hk0
                    go_wp2_with fail
                    go_meet
                    exact ⟨by rw [G.out], rfl⟩
                  · have f7 : decide ((0 : Int) < (k : Int)) = true := decide_eq_true (by omega)
                    have f8 : (0 : Int) < (k : Int) := by omega
                    have hcat : (⟨R.toArray⟩ ++ (⟨BL.toArray⟩ ++ ⟨#[43]⟩ ++ ⟨BL.toArray⟩) : ByteArray) = ⟨S1.toArray⟩ := by
                      rw [show (⟨#[43]⟩ : ByteArray) = ⟨([43] : List UInt8).toArray⟩ from rfl, mk_app, mk_app, mk_app, ← HS1.out, if_neg hk0, sepN, HBL.out]
                    clear hk0
                    go_wp2_with fail
                    go_meet
                    exact ⟨rfl, rfl⟩
                case rest =>
                  obtain ⟨rfl, rfl⟩ := hcut
                  go_wp2_with fail
                  go_quiet (fail)
                  go_wp2_with fail
                  go_roundw
                  case rel => exact ⟨k + 1, by go_num, by omega, by rw [HNX.out, HS2.out], Below.drewN (below_ext hbq hbw4) _⟩
                  case measure => simp [RowKit.intOf]; omega
              · obtain rfl : k = x.length := by omega
                have gk : decide ((x.length : Int) < (x.length : Int)) = false := decide_eq_false (by omega)
                have gk2 : ¬ x.length < x.length := by omega
                go_wp2_with fail
                go_roundw
                case rel => exact ⟨i + 1, by go_num, by omega, by rw [HUP.out], hbq⟩
                case measure => simp [RowKit.intOf]; omega
        · obtain rfl : i = d.length := by omega
          rw [upTo_all]
          obtain ⟨hpb, hle1, hle2⟩ := HPB.out
          obtain ⟨S, hS⟩ : ∃ S, textN N d = S := ⟨_, rfl⟩
          rw [hS] at hpb hle1 hle2 ⊢
          have kP := Parse_any S wr (by omega) (hE.below hbe)
          rw [hpb] at kP
          simp only at kP
          have hcat : (⟨S.toArray⟩ ++ ⟨#[120]⟩ : ByteArray) = ⟨(S ++ [120]).toArray⟩ := by
            rw [show (⟨#[120]⟩ : ByteArray) = ⟨([120] : List UInt8).toArray⟩ from rfl, mk_app]
          have hne : t ≠ S ++ [120] := by
            intro e
            have := congrArg List.length e
            simp at this
            omega
          obtain ⟨S3, hS3⟩ : ∃ S3, S ++ [120] = S3 := ⟨_, rfl⟩
          rw [hS3] at hcat hne
          have hne2 : (t == S3) = false := by simpa using hne
          clear hS hpb hS3
          go_wp2_with fail
          refine Calls.mono (show Calls _ _ _ _ _ from kP) ?_
          rintro e w2 ⟨⟨v2, rfl, hv2⟩, hb2⟩
          have hbw2 := below_ext hbe hb2
          have kA := alive_any w2 (hE.below hbw2)
          go_wp2_with fail
          refine Calls.mono (show Calls _ _ _ _ _ from kA) ?_
          rintro e w3 ⟨rfl, hb3⟩
          have hbw3 := below_ext hbw2 hb3
          have kS := Same_any v2 _ d d w3 (hv2.below hb3) (HH.out.below hbw3) hd hd HR.out HR.out
          rw [decide_eq_true rfl] at kS
          go_wp2_with fail
          refine Calls.mono (show Calls _ _ _ _ _ from kS) ?_
          rintro e w4 ⟨rfl, hb4⟩
          go_wp2_with fail
          go_ret
          exact ⟨rfl, below_ext hbw3 hb4⟩
end Go.Proofs.YtadbjdbkanaonaaDoor
