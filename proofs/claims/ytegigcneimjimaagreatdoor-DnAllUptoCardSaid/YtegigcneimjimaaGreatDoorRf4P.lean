/- chanceryref4's desk: a pair. -/
import Derived.Test.YtegigcneimjimaaGreatDoorRf4B
import Derived.Test.YtegigcneimjimaaGreatDoorRf4C
import Derived.Test.YtegigcneimjimaaGreatDoorRf4D
import Derived.Test.YtegigcneimjimaaGreatDoorDnQ
import Derived.Test.YtegigcneimjimaaGreatDoorPlainRf4
import Derived.Deep.CutRange
import Derived.RegionTactic
import Derived.Deep.RegionHeld3
import Derived.Deep.AppendLies
import Derived.StillTailTactics
namespace Go.Proofs.YtegigcneimjimaaGreatDoor
open Go.RowKit Go.Lib

theorem Dd.below {w w' : World} {b : Nat} {s r : List UInt8} (h : Dd w b s r) (hb : Below w.heap.size w w') : Dd w' b s r := by
  obtain ⟨k, h1, h2, h3⟩ := h
  exact ⟨k, h1, h2, h3.below hb⟩
theorem Dd.lt {w : World} {b : Nat} {s r : List UInt8} (h : Dd w b s r) : b < w.heap.size := by obtain ⟨_, _, _, hh⟩ := h; exact hh.lt
theorem DAt.other {w : World} {b k g' i : Nat} {s : List UInt8} (h : DAt w b s k) (v : Value) (hne : b ≠ g') : DAt (w.setCell ⟨g', i, none⟩ v) b s k := by
  unfold DAt; rw [heap_setCell_other w ⟨g', i, none⟩ b v hne]; exact h
def TRelD (w : World) (b : Nat) (s r T D : List UInt8) (wr : World) : Prop :=
  ∃ k t, k ≤ s.length ∧ DAt wr b s k ∧ Kept b w wr ∧ r = t ++ s.drop k ∧ T = t ++ (s.drop k).takeWhile inTyB ∧ D = (s.drop k).dropWhile inTyB
def TEndD (w : World) (b : Nat) (s r T D : List UInt8) (wr : World) : Prop :=
  ∃ k, k ≤ s.length ∧ DAt wr b s k ∧ Kept b w wr ∧ r = T ++ s.drop k ∧ s.drop k = D
def PairPost (w : World) (b : Nat) (s : List UInt8) (ANS : Option (Av × List UInt8)) (e : Ending) (w' : World) : Prop :=
  (match ANS with | some (a, u) => e = .returned (.tuple #[.agg #[.string ⟨a.1.toArray⟩, .string ⟨a.2.toArray⟩], .bool true]) ∧ Dd w' b s u | none => ∃ x y : List UInt8, e = .returned (.tuple #[.agg #[.string ⟨x.toArray⟩, .string ⟨y.toArray⟩], .bool false])) ∧ Kept b w w'
theorem refPair_a {r : List UInt8} (h : isTyB ((blanksB r).takeWhile inTyB) = false) : refPair r = none := by
  unfold refPair; simp only [h]; rfl
theorem refPair_b {r z : List UInt8} (h : isTyB ((blanksB r).takeWhile inTyB) = true) (hz : blanksB ((blanksB r).dropWhile inTyB) = z) (h61 : headIs z 61 = false) : refPair r = none := by
  unfold refPair
  simp only [h, if_true, hz]
  split
  · simp [headIs] at h61
  · rfl
theorem refPair_c {r r3 : List UInt8} (h : isTyB ((blanksB r).takeWhile inTyB) = true) (hz : blanksB ((blanksB r).dropWhile inTyB) = 61 :: r3) :
    refPair r = match refValue (blanksB r3) with | some (v, u) => some (((blanksB r).takeWhile inTyB, v), u) | none => none := by
  unfold refPair
  simp only [h, if_true, hz]
  cases refValue (blanksB r3) <;> rfl
/-- A desk, the pair that is read and the pair that is returned. -/
def Lies (w : World) (b : Nat) (s : List UInt8) (k g : Nat) (T V : List UInt8) (h0 : Nat) (wx : World) : Prop :=
  DAt wx b s k ∧ Kept b w wx ∧ Two wx g T V ∧ Two wx h0 [] [] ∧ h0 < g
theorem ret_two {w0 w : World} {b h0 : Nat} {x y : List UInt8} (hB : Two w h0 x y) (hk : Kept b w0 w) (hh : w0.heap.size ≤ h0) (T V : List UInt8) :
    Two ((w.setCell ⟨h0, 0, none⟩ (.string ⟨T.toArray⟩)).setCell ⟨h0, 1, none⟩ (.string ⟨V.toArray⟩)) h0 T V ∧ Kept b w0 ((w.setCell ⟨h0, 0, none⟩ (.string ⟨T.toArray⟩)).setCell ⟨h0, 1, none⟩ (.string ⟨V.toArray⟩)) :=
  ⟨(hB.set0 T).set1 V, (hk.new hh _).new hh _⟩
theorem DAt.two {w : World} {b h0 k : Nat} {s : List UInt8} (h : DAt w b s k) (hne : b ≠ h0) (u v : Value) : DAt ((w.setCell ⟨h0, 0, none⟩ u).setCell ⟨h0, 1, none⟩ v) b s k := (h.other u hne).other v hne
theorem refValue_hash (t : List UInt8) : refValue (35 :: t) = match rHex t with | none => none | some (v, u) => some (v, blanksB u) := rfl
theorem refValue_other {r : List UInt8} (h : headIs r 35 = false) : refValue r = refVal r.length r [] 0 := by
  unfold refValue
  split
  · simp [headIs] at h
  · rfl
theorem head_cons {z : List UInt8} {c : UInt8} (h : headIs z c = true) : ∃ t, z = c :: t := by
  cases z with
  | nil => simp [headIs] at h
  | cons x t => simp [headIs] at h; subst h; exact ⟨t, rfl⟩
theorem Lies.drewN {w : World} {b k g h0 : Nat} {s T V : List UInt8} {wx : World} (h : Lies w b s k g T V h0 wx) (n : Nat) : Lies w b s k g T V h0 (wx.drewN n) :=
  ⟨h.1, h.2.1.trans (Kept.of_below (Below.drewN (Below.refl _ _) n)), h.2.2.1, h.2.2.2.1, h.2.2.2.2⟩
theorem Lies.alloc {w : World} {b k g h0 : Nat} {s T V : List UInt8} {wx : World} (h : Lies w b s k g T V h0 wx) (o : Obj) : Lies w b s k g T V h0 (wx.alloc o) := by
  have hb := (Below.refl wx.heap.size wx).alloc (Nat.le_refl _) o
  exact ⟨h.1.below hb, h.2.1.trans (Kept.of_below hb), (hb.block _ (Array.getElem?_eq_some_iff.1 h.2.2.1).1).trans h.2.2.1, (hb.block _ (Array.getElem?_eq_some_iff.1 h.2.2.2.1).1).trans h.2.2.2.1, h.2.2.2.2⟩
theorem Lies.grown {w : World} {b k g h0 B : Nat} {s T V : List UInt8} {wx w7 : World} {row : Option Nat} (h : Lies w b s k g T V h0 wx) (hg : wx.grownBy w7 row) (hr : ∀ j, row = some j → B ≤ j) (hb : b < B) (hgB : g < B) (hw : w.heap.size ≤ B) : Lies w b s k g T V h0 w7 := by
  have hne : ∀ j, j < B → some j ≠ row := fun j hj e => by have := hr j e.symm; omega
  refine ⟨(hg.block b h.1.lt (hne b hb)).trans h.1, h.2.1.grown hg (fun j hj => by have := hr j hj; omega), (hg.block g (Array.getElem?_eq_some_iff.1 h.2.2.1).1 (hne g hgB)).trans h.2.2.1, (hg.block h0 (Array.getElem?_eq_some_iff.1 h.2.2.2.1).1 (hne h0 (by have := h.2.2.2.2; omega))).trans h.2.2.2.1, h.2.2.2.2⟩
theorem Lies.set {w : World} {b k g h0 : Nat} {s T V : List UInt8} {wx : World} (h : Lies w b s k g T V h0 wx) (hb : b < h0) (j : Nat) : Lies w b s j g T V h0 (wx.setCell ⟨b, 1, none⟩ (.int .i64 (j : Int))) :=
  ⟨h.1.set j, h.2.1.trans (Kept.set b wx 1 _), h.2.2.1.other _ (by have := h.2.2.2.2; omega), h.2.2.2.1.other _ (by omega), h.2.2.2.2⟩
theorem Lies.set1 {w : World} {b k g h0 : Nat} {s T V : List UInt8} {wx : World} (h : Lies w b s k g T V h0 wx) (hb : b < h0) : Lies w b s (k + 1) g T V h0 (wx.setCell ⟨b, 1, none⟩ (.int .i64 ((k : Int) + 1))) := h.set hb (k + 1)
theorem Lies.set2 {w : World} {b k g h0 : Nat} {s T V : List UInt8} {wx : World} (h : Lies w b s k g T V h0 wx) (hb : b < h0) : Lies w b s (k + 2) g T V h0 (wx.setCell ⟨b, 1, none⟩ (.int .i64 ((k : Int) + 2))) := h.set hb (k + 2)
theorem Lies.set3 {w : World} {b k g h0 : Nat} {s T V : List UInt8} {wx : World} (h : Lies w b s k g T V h0 wx) (hb : b < h0) : Lies w b s (k + 3) g T V h0 (wx.setCell ⟨b, 1, none⟩ (.int .i64 ((k : Int) + 3))) := h.set hb (k + 3)
theorem spec_esc {n : UInt8} (h : n ∈ specL) : n ∈ escL := by
  have : ∀ x ∈ specL, x ∈ escL := by decide
  exact this n h
theorem esc_cases {n : UInt8} (h : n ∈ escL) (hs : n ∉ specL) : n = 61 ∨ n = 35 ∨ n = 32 := by
  have : ∀ x ∈ escL, x ∉ specL → x = 61 ∨ x = 35 ∨ x = 32 := by decide
  exact this n h hs
theorem esc_ne {n : UInt8} (h : n ∉ escL) (c : Nat) (hc : c < 256) (hm : UInt8.ofNat c ∈ escL) : ((n.toNat : Int) == (c : Int)) = false := by
  rw [beq_nat, ← u8_beq n c hc, beq_eq_false_iff_ne]
  rintro rfl
  exact h hm
theorem refVal_fuel : ∀ (f g : Nat) (r b : List UInt8) (n : Nat), r.length ≤ f → r.length ≤ g → refVal f r b n = refVal g r b n
  | f, g, [], b, n, _, _ => by cases f <;> cases g <;> rfl
  | 0, _, c :: t, _, _, h, _ => by simp at h
  | _, 0, c :: t, _, _, _, h => by simp at h
  | f + 1, g + 1, c :: t, b, n, h1, h2 => by
    have i1 : t.length ≤ f := by simpa using h1
    have i2 : t.length ≤ g := by simpa using h2
    rw [refVal, refVal]
    split
    · cases he : rEsc t with
      | none => rfl
      | some p =>
        obtain ⟨x, u⟩ := p
        have hu := rEsc_len he
        exact refVal_fuel f g u _ _ (by omega) (by omega)
    · split
      · rfl
      · exact refVal_fuel f g t _ _ i1 i2
def VRelD (w : World) (B b : Nat) (s : List UInt8) (g : Nat) (T V0 : List UInt8) (ANV : Option (List UInt8 × List UInt8)) (s8 s9 : Value) (wr : World) : Prop :=
  ∃ (k L : Nat) (o : List UInt8), s9 = .int .i64 (L : Int) ∧ L ≤ o.length ∧ k ≤ s.length ∧ o.length ≤ k ∧ Lies w b s k g T V0 w.heap.size wr ∧ B ≤ wr.heap.size ∧ wr.ownsRow B 5 1 s8 o.length (bV o) ∧ refVal (s.drop k).length (s.drop k) o L = ANV
def VEndD (w : World) (B b : Nat) (s : List UInt8) (g : Nat) (T V0 : List UInt8) (ANV : Option (List UInt8 × List UInt8)) (s8 s9 : Value) (wr : World) : Prop :=
  ∃ (k L : Nat) (o : List UInt8), s9 = .int .i64 (L : Int) ∧ L ≤ o.length ∧ k ≤ s.length ∧ Lies w b s k g T V0 w.heap.size wr ∧ wr.ownsRow B 5 1 s8 o.length (bV o) ∧ ANV = some (o.take L, s.drop k)
theorem own_set {w : World} {B b e size n : Nat} {v u : Value} {xs : List Value} (h : w.ownsRow B e size v n xs) (hb : b < B) : (w.setCell ⟨b, 1, none⟩ u).ownsRow B e size v n xs :=
  own_kept h (Kept.set b w 1 u) hb
def HRelD (w : World) (b : Nat) (s r T D : List UInt8) (wr : World) : Prop :=
  ∃ k t, k ≤ s.length ∧ DAt wr b s k ∧ Kept b w wr ∧ r = t ++ s.drop k ∧ T = t ++ (s.drop k).takeWhile isHex ∧ D = (s.drop k).dropWhile isHex
set_option maxRecDepth 100000 in
set_option maxHeartbeats 16000000 in
theorem dpair_h (b : Nat) (s r : List UInt8) (w : World) (h : Dd w b s r) (hs : s.length ≤ 1099511627776) (hH : ∀ r3, blanksB ((blanksB r).dropWhile inTyB) = 61 :: r3 → headIs (blanksB r3) 35 = true) :
    Calls Tryz.prog 204 #[.pointer (some ⟨b, 0, none⟩)] w (PairPost w b s (refPair r)) := by
  have hlb := h.lt
  have HHY := Lib.hid hH
  clear hH
  obtain ⟨ANS, hA⟩ : ∃ ANS, refPair r = ANS := ⟨_, rfl⟩
  rw [hA]
  have HA := Lib.hid hA
  clear hA
  have hkA : Kept b w (w.alloc (.cells #[.string ⟨#[]⟩, .string ⟨#[]⟩] 146)) := (Kept.refl b w).alloc _
  have hrA : Dd (w.alloc (.cells #[.string ⟨#[]⟩, .string ⟨#[]⟩] 146)) b s r := h.below ((Below.refl _ _).alloc (Nat.le_refl _) _)
  have hBA : Two (w.alloc (.cells #[.string ⟨#[]⟩, .string ⟨#[]⟩] 146)) w.heap.size [] [] := alloc_at _ _ _ rfl
  have hsA : w.heap.size < (w.alloc (.cells #[.string ⟨#[]⟩, .string ⟨#[]⟩] 146)).heap.size := by simp
  go_enter Tryz.func204, Tryz.ntmps204
  go_upto_region 1 with fail
  generalize w.alloc (.cells #[.string ⟨#[]⟩, .string ⟨#[]⟩] 146) = wA at hkA hrA hBA hsA ⊢
  go_upto_region 2 with (go_at_call 251; refine Calls.mono (show Calls _ _ _ _ _ from dblanks_any b s r wA hrA hs) ?_; rintro e w1 ⟨rfl, hr1, hk1⟩)
  have hkw1 := hkA.trans hk1
  have hB1 : Two w1 w.heap.size [] [] := hk1.block hBA (by omega)
  have hs1 : w.heap.size < w1.heap.size := Nat.lt_of_lt_of_le hsA hk1.2.2.2.1
  clear hk1 hrA hBA hsA hkA
  obtain ⟨r1, hr1e⟩ : ∃ r1, blanksB r = r1 := ⟨_, rfl⟩
  rw [hr1e] at hr1
  obtain ⟨K, hK, hrK, hR⟩ := hr1
  obtain ⟨T, hT0⟩ : ∃ T, r1.takeWhile inTyB = T := ⟨_, rfl⟩
  obtain ⟨D, hD0⟩ : ∃ D, r1.dropWhile inTyB = D := ⟨_, rfl⟩
  have HE := Lib.hid hr1e
  have HT := Lib.hid hT0
  have HD := Lib.hid hD0
  have HK := Lib.hid hrK
  clear hr1e hT0 hD0 hrK
  obtain ⟨q0, q1, q2⟩ := hR.cells
  go_upto_block 0 with fail
  clear q0 q1 q2
  go_cut [] from 18 to 82 (fun wx => TEndD w1 b s r1 T D wx)
  case first =>
    -- L1
    go_wp2_with fail
    go_loopw [] (fun wr => TRelD w1 b s r1 T D wr) (fun wr => s.length - posOf wr b)
    case atStart => exact ⟨K, [], hK, hR, Kept.refl _ _, by rw [HK.out]; rfl, by rw [HK.out, HT.out]; rfl, by rw [HK.out, HD.out]⟩
    case round =>
      obtain ⟨k, t, hk, h, hkp, hrt, htw, hdw⟩ := hrel
      have hpos := h.pos
      obtain ⟨u, hu⟩ : ∃ u, s.drop k = u := ⟨_, rfl⟩
      rw [hu] at hrt htw hdw
      obtain ⟨q0, q1, q2⟩ := h.cells
      cases u with
      | nil =>
        have hkl : k = s.length := by have := congrArg List.length hu; simp at this; omega
        have e1 : ¬ k < s.length := by omega
        have e3 : decide (k < s.length) = false := decide_eq_false e1
        have hT : T = t := by rw [htw]; simp
        have hD : D = [] := by rw [hdw]; rfl
        have HU := Lib.hid hu
        have HR := Lib.hid hrt
        clear hu htw hdw hrt hkl hpos
        subst hT hD
        go_wp2
        go_quiet (fail)
        go_wp2
        go_meet
        exact ⟨k, hk, h.drewN _, hkp.trans (Kept.of_below (Below.drewN (Below.refl _ _) _)), by rw [HU.out]; exact HR.out, HU.out⟩
      | cons x u =>
        obtain ⟨hlt, hdr⟩ := drop_lt hu
        have e1 : decide ((k : Int) < (s.length : Int)) = true := decide_eq_true (by omega)
        have e2 : (k : Int) < (s.length : Int) := by omega
        have hb := fun h' => byte_at hu h'
        have kl := fun n => rletter_any x (wr.drewN n)
        have kd := fun n => rdigit_any x (wr.drewN n)
        have x45 : ((x.toNat : Int) == 45) = (x == 45) := (beq_nat _ 45).trans (u8_beq x 45 (by decide)).symm
        have x46 : ((x.toNat : Int) == 46) = (x == 46) := (beq_nat _ 46).trans (u8_beq x 46 (by decide)).symm
        have hin : inTyB x = (letB x || digB x || x == 45 || x == 46) := rfl
        generalize letB x = pl at kl hin
        generalize digB x = pd at kd hin
        generalize (x == 45) = p5 at x45 hin
        generalize (x == 46) = p6 at x46 hin
        cases pl
        · cases pd
          · cases p5
            · cases p6
              · have hy : inTyB x = false := by rw [hin]; rfl
                have hT : T = t := by rw [htw, List.takeWhile_cons_of_neg (by simp [hy])]; simp
                have hD : D = x :: u := by rw [hdw, List.dropWhile_cons_of_neg (by simp [hy])]
                have HU := Lib.hid hu
                have HR := Lib.hid hrt
                clear hu htw hdw hrt hpos hin hy hdr
                subst hT hD
                go_wp2
                go_quiet (first | (go_at_call 213; exact Calls.quiet_of_same ((kl _).mono fun e w' hh => ⟨hh.1, hh.2.symm⟩)) | (go_at_call 214; exact Calls.quiet_of_same ((kd _).mono fun e w' hh => ⟨hh.1, hh.2.symm⟩)))
                go_wp2
                go_meet
                exact ⟨k, hk, h.drewN _, hkp.trans (Kept.of_below (Below.drewN (Below.refl _ _) _)), by rw [HU.out]; exact HR.out, HU.out⟩
              · have hy : inTyB x = true := by rw [hin]; rfl
                have hT : T = (t ++ [x]) ++ (s.drop (k + 1)).takeWhile inTyB := by rw [htw, hdr, List.takeWhile_cons_of_pos hy]; simp
                have hD : D = (s.drop (k + 1)).dropWhile inTyB := by rw [hdw, hdr, List.dropWhile_cons_of_pos hy]
                have hr2 : r1 = (t ++ [x]) ++ s.drop (k + 1) := by rw [hrt, hdr]; simp
                have G1 := Lib.hid hT
                have G2 := Lib.hid hD
                have G3 := Lib.hid hr2
                clear hT hD hr2 htw hdw hrt hin hy hu hdr
                go_wp2
                go_quiet (first | (go_at_call 213; exact Calls.quiet_of_same ((kl _).mono fun e w' hh => ⟨hh.1, hh.2.symm⟩)) | (go_at_call 214; exact Calls.quiet_of_same ((kd _).mono fun e w' hh => ⟨hh.1, hh.2.symm⟩)))
                have h1 : DAt (wr.drewN nq) b s k := h.drewN nq
                have hkp1 : Kept b w1 (wr.drewN nq) := hkp.trans (Kept.of_below (Below.drewN (Below.refl _ _) nq))
                clear q0 q1 q2 kl kd
                generalize wr.drewN nq = w2 at h1 hkp1 ⊢
                obtain ⟨q0, q1, q2⟩ := h1.cells
                go_wp2
                go_roundw
                case rel => exact ⟨k + 1, t ++ [x], hlt, h1.set1, hkp1.trans (Kept.set b w2 1 _), G3.out, G1.out, G2.out⟩
                case measure => rw [hpos, h1.set1.pos]; omega
            · have hy : inTyB x = true := by rw [hin]; rfl
              have hT : T = (t ++ [x]) ++ (s.drop (k + 1)).takeWhile inTyB := by rw [htw, hdr, List.takeWhile_cons_of_pos hy]; simp
              have hD : D = (s.drop (k + 1)).dropWhile inTyB := by rw [hdw, hdr, List.dropWhile_cons_of_pos hy]
              have hr2 : r1 = (t ++ [x]) ++ s.drop (k + 1) := by rw [hrt, hdr]; simp
              have G1 := Lib.hid hT
              have G2 := Lib.hid hD
              have G3 := Lib.hid hr2
              clear hT hD hr2 htw hdw hrt hin hy hu hdr
              go_wp2
              go_quiet (first | (go_at_call 213; exact Calls.quiet_of_same ((kl _).mono fun e w' hh => ⟨hh.1, hh.2.symm⟩)) | (go_at_call 214; exact Calls.quiet_of_same ((kd _).mono fun e w' hh => ⟨hh.1, hh.2.symm⟩)))
              have h1 : DAt (wr.drewN nq) b s k := h.drewN nq
              have hkp1 : Kept b w1 (wr.drewN nq) := hkp.trans (Kept.of_below (Below.drewN (Below.refl _ _) nq))
              clear q0 q1 q2 kl kd
              generalize wr.drewN nq = w2 at h1 hkp1 ⊢
              obtain ⟨q0, q1, q2⟩ := h1.cells
              go_wp2
              go_roundw
              case rel => exact ⟨k + 1, t ++ [x], hlt, h1.set1, hkp1.trans (Kept.set b w2 1 _), G3.out, G1.out, G2.out⟩
              case measure => rw [hpos, h1.set1.pos]; omega
          · have hy : inTyB x = true := by rw [hin]; rfl
            have hT : T = (t ++ [x]) ++ (s.drop (k + 1)).takeWhile inTyB := by rw [htw, hdr, List.takeWhile_cons_of_pos hy]; simp
            have hD : D = (s.drop (k + 1)).dropWhile inTyB := by rw [hdw, hdr, List.dropWhile_cons_of_pos hy]
            have hr2 : r1 = (t ++ [x]) ++ s.drop (k + 1) := by rw [hrt, hdr]; simp
            have G1 := Lib.hid hT
            have G2 := Lib.hid hD
            have G3 := Lib.hid hr2
            clear hT hD hr2 htw hdw hrt hin hy hu hdr
            go_wp2
            go_quiet (first | (go_at_call 213; exact Calls.quiet_of_same ((kl _).mono fun e w' hh => ⟨hh.1, hh.2.symm⟩)) | (go_at_call 214; exact Calls.quiet_of_same ((kd _).mono fun e w' hh => ⟨hh.1, hh.2.symm⟩)))
            have h1 : DAt (wr.drewN nq) b s k := h.drewN nq
            have hkp1 : Kept b w1 (wr.drewN nq) := hkp.trans (Kept.of_below (Below.drewN (Below.refl _ _) nq))
            clear q0 q1 q2 kl kd
            generalize wr.drewN nq = w2 at h1 hkp1 ⊢
            obtain ⟨q0, q1, q2⟩ := h1.cells
            go_wp2
            go_roundw
            case rel => exact ⟨k + 1, t ++ [x], hlt, h1.set1, hkp1.trans (Kept.set b w2 1 _), G3.out, G1.out, G2.out⟩
            case measure => rw [hpos, h1.set1.pos]; omega
        · have hy : inTyB x = true := by rw [hin]; rfl
          have hT : T = (t ++ [x]) ++ (s.drop (k + 1)).takeWhile inTyB := by rw [htw, hdr, List.takeWhile_cons_of_pos hy]; simp
          have hD : D = (s.drop (k + 1)).dropWhile inTyB := by rw [hdw, hdr, List.dropWhile_cons_of_pos hy]
          have hr2 : r1 = (t ++ [x]) ++ s.drop (k + 1) := by rw [hrt, hdr]; simp
          have G1 := Lib.hid hT
          have G2 := Lib.hid hD
          have G3 := Lib.hid hr2
          clear hT hD hr2 htw hdw hrt hin hy hu hdr
          go_wp2
          go_quiet (first | (go_at_call 213; exact Calls.quiet_of_same ((kl _).mono fun e w' hh => ⟨hh.1, hh.2.symm⟩)) | (go_at_call 214; exact Calls.quiet_of_same ((kd _).mono fun e w' hh => ⟨hh.1, hh.2.symm⟩)))
          have h1 : DAt (wr.drewN nq) b s k := h.drewN nq
          have hkp1 : Kept b w1 (wr.drewN nq) := hkp.trans (Kept.of_below (Below.drewN (Below.refl _ _) nq))
          clear q0 q1 q2 kl kd
          generalize wr.drewN nq = w2 at h1 hkp1 ⊢
          obtain ⟨q0, q1, q2⟩ := h1.cells
          go_wp2
          go_roundw
          case rel => exact ⟨k + 1, t ++ [x], hlt, h1.set1, hkp1.trans (Kept.set b w2 1 _), G3.out, G1.out, G2.out⟩
          case measure => rw [hpos, h1.set1.pos]; omega
    -- L1 end
  case rest =>
    obtain ⟨k, hk, h, hkp, hrt, hdr⟩ := hcut
    have hkK : K + T.length = k := by have := congrArg List.length hrt; rw [← HK.out] at this; simp at this; omega
    have hex : (⟨s.toArray⟩ : ByteArray).extract K k = ⟨T.toArray⟩ := by rw [extract_mk, HK.out, hrt, ← hkK]; simp
    have hkw := hkw1.trans hkp
    have hB : Two wc w.heap.size [] [] := hkp.block hB1 (by omega)
    have hsc : w.heap.size < wc.heap.size := Nat.lt_of_lt_of_le hs1 hkp.2.2.2.1
    have i1 : (K : Int) ≤ (k : Int) := by omega
    have i2 : (k : Int) ≤ (s.length : Int) := by omega
    obtain ⟨q0, q1, q2⟩ := h.cells
    have HDR := Lib.hid hdr
    clear hrt hdr hkK hkp hR hB1 hkw1 hs1
    go_upto_region 5 with fail
    go_cut [5] from 83 to 93 (fun s5 wx => ∃ g, s5 = .pointer (some ⟨g, 0, none⟩) ∧ Lies w b s k g T [] w.heap.size wx)
    case first =>
      have hbA := (Below.refl wc.heap.size wc).alloc (Nat.le_refl _) (.cells #[.string ⟨#[]⟩, .string ⟨#[]⟩] 146)
      have hDA := h.below hbA
      obtain ⟨p0, p1, p2⟩ := hDA.cells
      go_region
      all_goals
        go_wp2_with fail
        go_meet
        have hb2 := Below.drew ((Below.refl wc.heap.size wc).alloc (Nat.le_refl _) (.cells #[.string ⟨T.toArray⟩, .string ⟨#[]⟩] 146))
        exact ⟨wc.heap.size, rfl, h.below hb2, hkw.trans (Kept.of_below hb2), alloc_at _ _ _ rfl, (hb2.block _ hsc).trans hB, hsc⟩
    case rest =>
      clear q0 q1 q2 h hkw hB hsc hex i1 i2
      obtain ⟨g, rfl, h, hkw, hC, hB, hlt⟩ := hcut
      have hgb : b < g := by omega
      go_upto_region 7 with (go_at_call 251; refine Calls.mono (show Calls _ _ _ _ _ from dblanks_any b s D _ ⟨k, hk, HDR.out, h⟩ hs) ?_; rintro e w2 ⟨rfl, hr2, hk2⟩)
      have hkw2 := hkw.trans hk2
      have hC2 : Two w2 g T [] := hk2.block hC (by omega)
      have hB2 : Two w2 w.heap.size [] [] := hk2.block hB (by omega)
      clear h hkw hC hB hk2
      obtain ⟨z, hz⟩ : ∃ z, blanksB D = z := ⟨_, rfl⟩
      rw [hz] at hr2
      have hz2 : blanksB ((blanksB r).dropWhile inTyB) = z := by rw [HE.out, HD.out]; exact hz
      have HZ := Lib.hid hz2
      obtain ⟨k2, hk2, hdr2, h2⟩ := hr2
      have hTl : T.length ≤ 1099511627776 := by
        have h1 := tw_len inTyB r1
        have h2 := congrArg List.length HK.out
        rw [HT.out] at h1
        rw [List.length_drop] at h2
        omega
      obtain ⟨V0, hV0⟩ : ∃ V0 : List UInt8, V0 = [] := ⟨_, rfl⟩
      rw [← hV0] at hC2
      have HV0 := Lib.hid hV0
      clear hV0 hz hz2
      obtain ⟨q0, q1, q2, q3⟩ := hC2.cells
      have kt := RIsType_any T w2 hTl
      cases hty : isTyB T with
      | false =>
        rw [hty] at kt
        have hans : ANS = none := by rw [← HA.out]; exact refPair_a (by rw [HE.out, HT.out]; exact hty)
        obtain ⟨p0, p1, p2, p3⟩ := hB2.cells
        have hans2 := Lib.hid hans
        clear hans hty
        go_wp2_with (go_at_call 128; refine Calls.mono (show Calls _ _ _ _ _ from kt) ?_; rintro e w3 ⟨rfl, rfl⟩)
        obtain ⟨hB9, hk9⟩ := ret_two hB2 hkw2 (Nat.le_refl _) T V0
        clear q0 q1 q2 q3 p0 p1 p2 p3
        generalize (w2.setCell ⟨w.heap.size, 0, none⟩ (.string ⟨T.toArray⟩)).setCell ⟨w.heap.size, 1, none⟩ (.string ⟨V0.toArray⟩) = w9 at hB9 hk9 ⊢
        obtain ⟨y0, y1, _, _⟩ := hB9.cells
        refine bodyPost_ret (v := .tuple #[.agg #[.string ⟨T.toArray⟩, .string ⟨V0.toArray⟩], .bool false]) (by simp [results, Tryz.results204, go_sem, y0, y1]) rfl ?_
        rw [hans2.out]
        exact ⟨⟨T, V0, rfl⟩, hk9⟩
      | true =>
        rw [hty] at kt
        have hty2 : isTyB ((blanksB r).takeWhile inTyB) = true := by rw [HE.out, HT.out]; exact hty
        have ki := dis_any b k2 s z 61 w2 h2 hk2 hdr2
        clear hty
        cases h61 : headIs z 61 with
        | false =>
          rw [h61] at ki
          have hans : ANS = none := by rw [← HA.out]; exact refPair_b hty2 HZ.out h61
          have hans2 := Lib.hid hans
          clear hans h61 hty2
          go_wp2_with (first | (go_at_call 128; refine Calls.mono (show Calls _ _ _ _ _ from kt) ?_; rintro e w3 ⟨rfl, rfl⟩) | (go_at_call 205; refine Calls.mono (show Calls _ _ _ _ _ from ki) ?_; rintro e w3 ⟨rfl, m, hw3⟩; have hkw3 : Kept b w w3 := (by rw [hw3]; exact hkw2.trans (Kept.of_below (Below.drewN (Below.refl _ _) m))); have hC3 : Two w3 g T V0 := (by rw [hw3]; exact hC2); have hB3 : Two w3 w.heap.size [] [] := (by rw [hw3]; exact hB2); clear hw3; obtain ⟨r0, r1, r2, r3⟩ := hC3.cells; obtain ⟨p0, p1, p2, p3⟩ := hB3.cells))
          obtain ⟨hB9, hk9⟩ := ret_two hB3 hkw3 (Nat.le_refl _) T V0
          clear q0 q1 q2 q3 p0 p1 p2 p3 r0 r1 r2 r3
          generalize (w3.setCell ⟨w.heap.size, 0, none⟩ (.string ⟨T.toArray⟩)).setCell ⟨w.heap.size, 1, none⟩ (.string ⟨V0.toArray⟩) = w9 at hB9 hk9 ⊢
          obtain ⟨y0, y1, _, _⟩ := hB9.cells
          refine bodyPost_ret (v := .tuple #[.agg #[.string ⟨T.toArray⟩, .string ⟨V0.toArray⟩], .bool false]) (by simp [results, Tryz.results204, go_sem, y0, y1]) rfl ?_
          rw [hans2.out]
          exact ⟨⟨T, V0, rfl⟩, hk9⟩
        | true =>
          rw [h61] at ki
          obtain ⟨r3, rfl⟩ := head_cons h61
          have hrp := refPair_c hty2 HZ.out
          rw [HA.out, HE.out, HT.out] at hrp
          obtain ⟨hlt2, hdr3⟩ := drop_lt hdr2
          clear h61 hty2
          go_upto_region 9 with (first | (go_at_call 128; refine Calls.mono (show Calls _ _ _ _ _ from kt) ?_; rintro e w3 ⟨rfl, rfl⟩) | (go_at_call 205; refine Calls.mono (show Calls _ _ _ _ _ from ki) ?_; rintro e w3 ⟨rfl, m, hw3⟩; have hkw3 : Kept b w w3 := (by rw [hw3]; exact hkw2.trans (Kept.of_below (Below.drewN (Below.refl _ _) m))); have hC3 : Two w3 g T V0 := (by rw [hw3]; exact hC2); have hB3 : Two w3 w.heap.size [] [] := (by rw [hw3]; exact hB2); have h3 : DAt w3 b s k2 := (by rw [hw3]; exact h2); clear hw3))
          clear q0 q1 q2 q3 kt ki hC2 hB2 h2 hkw2
          obtain ⟨q0, q1, q2⟩ := h3.cells
          go_upto_region 10 with fail
          have h4 := h3.set1
          have hkw4 := hkw3.trans (Kept.set b w3 1 (.int .i64 ((k2 : Int) + 1)))
          have hB4 := hB3.other (g' := b) (i := 1) (.int .i64 ((k2 : Int) + 1)) (by omega)
          have hC4 := hC3.other (g' := b) (i := 1) (.int .i64 ((k2 : Int) + 1)) (by omega)
          generalize w3.setCell ⟨b, 1, none⟩ (.int .i64 ((k2 : Int) + 1)) = w4 at h4 hkw4 hB4 hC4 ⊢
          clear q0 q1 q2 hB3 hC3 h3 hkw3
          go_upto_region 11 with (go_at_call 251; refine Calls.mono (show Calls _ _ _ _ _ from dblanks_any b s r3 w4 ⟨k2 + 1, hlt2, hdr3, h4⟩ hs) ?_; rintro e w5 ⟨rfl, hr5, hk5⟩)
          have hkw5 := hkw4.trans hk5
          have hC5 : Two w5 g T V0 := hk5.block hC4 (by omega)
          have hB5 : Two w5 w.heap.size [] [] := hk5.block hB4 (by omega)
          have hg5 : g < w5.heap.size := (Array.getElem?_eq_some_iff.1 hC5).1
          clear h4 hkw4 hC4 hB4 hk5 hdr3 hdr2
          obtain ⟨r5, hr5e⟩ : ∃ r5, blanksB r3 = r5 := ⟨_, rfl⟩
          rw [hr5e] at hr5 hrp
          have HR5 := Lib.hid hr5e
          clear hr5e
          obtain ⟨k5, hk5, hdr5, h5⟩ := hr5
          have ki := dis_any b k5 s r5 35 w5 h5 hk5 hdr5
          cases h35 : headIs r5 35 with
          | true =>
            -- SH
            rw [h35] at ki
            obtain ⟨t0, rfl⟩ := head_cons h35
            rw [refValue_hash] at hrp
            have HRP := Lib.hid hrp
            obtain ⟨hlt5, hdr6⟩ := drop_lt hdr5
            clear h35 hrp
            go_upto_region 12 with (go_at_call 205; refine Calls.mono (show Calls _ _ _ _ _ from ki) ?_; rintro e w6 ⟨rfl, m, hw6⟩; have hkw6 : Kept b w w6 := (by rw [hw6]; exact hkw5.trans (Kept.of_below (Below.drewN (Below.refl _ _) m))); have hC6 : Two w6 g T V0 := (by rw [hw6]; exact hC5); have hB6 : Two w6 w.heap.size [] [] := (by rw [hw6]; exact hB5); have h6 : DAt w6 b s k5 := (by rw [hw6]; exact h5); clear hw6)
            clear hkw5 hC5 hB5 h5 ki
            obtain ⟨q0, q1, q2⟩ := h6.cells
            go_upto_region 13 with fail
            have h7 := h6.set1
            have hkw7 := hkw6.trans (Kept.set b w6 1 (.int .i64 ((k5 : Int) + 1)))
            have hB7 := hB6.other (g' := b) (i := 1) (.int .i64 ((k5 : Int) + 1)) (by omega)
            have hC7 := hC6.other (g' := b) (i := 1) (.int .i64 ((k5 : Int) + 1)) (by omega)
            generalize w6.setCell ⟨b, 1, none⟩ (.int .i64 ((k5 : Int) + 1)) = w7 at h7 hkw7 hB7 hC7 ⊢
            clear q0 q1 q2 hB6 hC6 h6 hkw6
            obtain ⟨K7, hK7⟩ : ∃ K7, k5 + 1 = K7 := ⟨_, rfl⟩
            rw [hK7] at h7 hdr6
            have hK7l : K7 ≤ s.length := by omega
            have HK7 := Lib.hid hdr6
            clear hK7 hdr5 hdr6
            obtain ⟨TH, hTH⟩ : ∃ TH, t0.takeWhile isHex = TH := ⟨_, rfl⟩
            obtain ⟨DH, hDH⟩ : ∃ DH, t0.dropWhile isHex = DH := ⟨_, rfl⟩
            have HTH := Lib.hid hTH
            have HDH := Lib.hid hDH
            clear hTH hDH
            obtain ⟨q0, q1, q2⟩ := h7.cells
            go_upto_block 2 with fail
            clear q0 q1 q2
            go_cut [] from 128 to 157 (fun wx => TEndD w7 b s t0 TH DH wx)
            case first =>
              go_wp2_with fail
              go_loopw [] (fun wr => HRelD w7 b s t0 TH DH wr) (fun wr => s.length - posOf wr b)
              case atStart => exact ⟨K7, [], hK7l, h7, Kept.refl _ _, by rw [HK7.out]; rfl, by rw [HK7.out, HTH.out]; rfl, by rw [HK7.out, HDH.out]⟩
              case round =>
                obtain ⟨k, t, hk, h, hkp, hrt, htw, hdw⟩ := hrel
                have hpos := h.pos
                obtain ⟨u, hu⟩ : ∃ u, s.drop k = u := ⟨_, rfl⟩
                rw [hu] at hrt htw hdw
                obtain ⟨q0, q1, q2⟩ := h.cells
                cases u with
                | nil =>
                  have hkl : k = s.length := by have := congrArg List.length hu; simp at this; omega
                  have e1 : ¬ k < s.length := by omega
                  have e3 : decide (k < s.length) = false := decide_eq_false e1
                  have hT : TH = t := by rw [htw]; simp
                  have hD : DH = [] := by rw [hdw]; rfl
                  have HU := Lib.hid hu
                  have HR := Lib.hid hrt
                  clear hu htw hdw hrt hkl hpos
                  subst hT hD
                  go_wp2
                  go_quiet (fail)
                  go_wp2
                  go_meet
                  exact ⟨k, hk, h.drewN _, hkp.trans (Kept.of_below (Below.drewN (Below.refl _ _) _)), by rw [HU.out]; exact HR.out, HU.out⟩
                | cons x u =>
                  obtain ⟨hlt, hdr⟩ := drop_lt hu
                  have e1 : decide ((k : Int) < (s.length : Int)) = true := decide_eq_true (by omega)
                  have e2 : (k : Int) < (s.length : Int) := by omega
                  have hb := fun h' => byte_at hu h'
                  have k4 := fun n => RDigit_any x (wr.drewN n)
                  obtain ⟨y, hy⟩ : ∃ y, isHex x = y := ⟨_, rfl⟩
                  have hv : decide (0 ≤ hexD x) = y := hy
                  obtain ⟨V, hV⟩ : ∃ V, hexD x = V := ⟨_, rfl⟩
                  rw [hV] at k4 hv
                  clear hV
                  cases y
                  · have hv2 : decide (V ≥ 0) = false := hv
                    have hT : TH = t := by rw [htw, List.takeWhile_cons_of_neg (by simp [hy])]; simp
                    have hD : DH = x :: u := by rw [hdw, List.dropWhile_cons_of_neg (by simp [hy])]
                    have HU := Lib.hid hu
                    have HR := Lib.hid hrt
                    clear hu htw hdw hrt hpos hy hdr
                    subst hT hD
                    go_wp2
                    go_quiet (first | (go_at_call 252; exact Calls.quiet_of_same ((k4 _).mono fun e w' hh => ⟨hh.1, hh.2.symm⟩)))
                    go_wp2
                    go_meet
                    exact ⟨k, hk, h.drewN _, hkp.trans (Kept.of_below (Below.drewN (Below.refl _ _) _)), by rw [HU.out]; exact HR.out, HU.out⟩
                  · have hv2 : decide (V ≥ 0) = true := hv
                    have hT : TH = (t ++ [x]) ++ (s.drop (k + 1)).takeWhile isHex := by rw [htw, hdr, List.takeWhile_cons_of_pos hy]; simp
                    have hD : DH = (s.drop (k + 1)).dropWhile isHex := by rw [hdw, hdr, List.dropWhile_cons_of_pos hy]
                    have hr2 : t0 = (t ++ [x]) ++ s.drop (k + 1) := by rw [hrt, hdr]; simp
                    have G1 := Lib.hid hT
                    have G2 := Lib.hid hD
                    have G3 := Lib.hid hr2
                    clear hT hD hr2 htw hdw hrt hy hu hdr
                    go_wp2
                    go_quiet (first | (go_at_call 252; exact Calls.quiet_of_same ((k4 _).mono fun e w' hh => ⟨hh.1, hh.2.symm⟩)))
                    have h1 : DAt (wr.drewN nq) b s k := h.drewN nq
                    have hkp1 : Kept b w7 (wr.drewN nq) := hkp.trans (Kept.of_below (Below.drewN (Below.refl _ _) nq))
                    clear q0 q1 q2 k4
                    generalize wr.drewN nq = w2 at h1 hkp1 ⊢
                    obtain ⟨q0, q1, q2⟩ := h1.cells
                    go_wp2
                    go_roundw
                    case rel => exact ⟨k + 1, t ++ [x], hlt, h1.set1, hkp1.trans (Kept.set b w2 1 _), G3.out, G1.out, G2.out⟩
                    case measure => rw [hpos, h1.set1.pos]; omega
            case rest =>
              obtain ⟨k8, hk8, h8, hkp8, hrt8, hdr8⟩ := hcut
              have hkK : K7 + TH.length = k8 := by have := congrArg List.length hrt8; rw [← HK7.out] at this; simp at this; omega
              have hex : (⟨s.toArray⟩ : ByteArray).extract K7 k8 = ⟨TH.toArray⟩ := by rw [extract_mk, HK7.out, hrt8, ← hkK]; simp
              have hkw8 := hkw7.trans hkp8
              have hC8 : Two wc g T V0 := hkp8.block hC7 (by omega)
              have hB8 : Two wc w.heap.size [] [] := hkp8.block hB7 (by omega)
              have i1 : (K7 : Int) ≤ (k8 : Int) := by omega
              have i2 : (k8 : Int) ≤ (s.length : Int) := by omega
              have hall : ∀ c ∈ TH, isHex c = true := by rw [← HTH.out]; intro c hc; exact mem_tw hc
              have hTHl : TH.length ≤ 1099511627776 := by omega
              have HAL := Lib.hid hall
              have HDR8 := Lib.hid hdr8
              clear hrt8 hdr8 hkK hkp8 h7 hC7 hB7 hkw7 hall
              obtain ⟨q0, q1, q2⟩ := h8.cells
              have ku := RUnhex_any TH wc.drew hTHl HAL.out
              obtain ⟨VH, EH, hVE⟩ : ∃ VH EH, (if TH.length % 2 = 0 then Value.tuple #[.string ⟨(unhexL TH).toArray⟩, .int .i64 0] else .tuple #[.string ⟨#[]⟩, .int .i64 11]) = .tuple #[.string ⟨(VH : List UInt8).toArray⟩, .int .i64 EH] ∧ (if TH.length % 2 = 0 then VH = unhexL TH ∧ EH = 0 else VH = [] ∧ EH = 11) := by
                by_cases hev : TH.length % 2 = 0
                · rw [if_pos hev]; exact ⟨unhexL TH, 0, rfl, by rw [if_pos hev]; exact ⟨rfl, rfl⟩⟩
                · rw [if_neg hev]; exact ⟨[], 11, rfl, by rw [if_neg hev]; exact ⟨rfl, rfl⟩⟩
              rw [hVE.1] at ku
              have HVE := Lib.hid hVE.2
              clear hVE
              go_upto_region 16 with fail
              go_cut [6, 7] from 158 to 171 (fun s6 s7 wx => s6 = .string ⟨VH.toArray⟩ ∧ s7 = .int .i64 EH ∧ Lies w b s k8 g T V0 w.heap.size wx)
              case first =>
                go_region_with (go_at_call 253; refine Calls.mono (show Calls _ _ _ _ _ from ku) ?_; rintro e w1 ⟨rfl, hb1⟩)
                all_goals
                  go_wp2_with fail
                  go_meet
                  have hb2 : Below wc.heap.size wc w1 := below_ext (Below.drew (Below.refl _ wc)) hb1
                  exact ⟨rfl, rfl, h8.below hb2, hkw8.trans (Kept.of_below hb2), (hb2.block _ (Array.getElem?_eq_some_iff.1 hC8).1).trans hC8, (hb2.block _ (Array.getElem?_eq_some_iff.1 hB8).1).trans hB8, hlt⟩
              case rest =>
                clear q0 q1 q2 ku h8 hkw8 hC8 hB8 hex i1 i2
                obtain ⟨rfl, rfl, h9, hkw9, hC9, hB9, _⟩ := hcut
                obtain ⟨q0, q1, q2, q3⟩ := hC9.cells
                go_upto_region 18 with fail
                have h10 := h9.other (g' := g) (i := 1) (.string ⟨VH.toArray⟩) (by omega)
                have hkw10 := hkw9.new (g := g) (i := 1) (by omega) (.string ⟨VH.toArray⟩)
                have hB10 := hB9.other (g' := g) (i := 1) (.string ⟨VH.toArray⟩) (by omega)
                have hC10 := hC9.set1 VH
                clear q0 q1 q2 q3
                generalize wc.setCell ⟨g, 1, none⟩ (.string ⟨VH.toArray⟩) = w10 at h10 hkw10 hB10 hC10 ⊢
                clear h9 hkw9 hC9 hB9
                go_upto_region 19 with (go_at_call 251; refine Calls.mono (show Calls _ _ _ _ _ from dblanks_any b s DH w10 ⟨k8, hk8, HDR8.out, h10⟩ hs) ?_; rintro e w11 ⟨rfl, hr11, hk11⟩)
                have hkw11 := hkw10.trans hk11
                have hC11 : Two w11 g T VH := hk11.block hC10 (by omega)
                have hB11 : Two w11 w.heap.size [] [] := hk11.block hB10 (by omega)
                clear h10 hkw10 hC10 hB10 hk11
                obtain ⟨q0, q1, q2, q3⟩ := hC11.cells
                obtain ⟨p0, p1, p2, p3⟩ := hB11.cells
                obtain ⟨k11, hk11, hdr11, h11⟩ := hr11
                have hH : rHex t0 = if TH.length % 2 = 0 ∧ TH ≠ [] then some (unhexL TH, DH) else none := by unfold rHex; rw [HTH.out, HDH.out]
                have hve := HVE.out
                by_cases hev : TH.length % 2 = 0
                · rw [if_pos hev] at hve
                  obtain ⟨hve1, hve2⟩ := hve
                  subst hve2
                  by_cases hT0 : TH = []
                  · rw [if_neg (fun hh => hh.2 hT0)] at hH
                    have hans : ANS = none := by rw [HRP.out, hH]
                    have hVe : VH.isEmpty = true := by rw [hve1, hT0]; rfl
                    have hans2 := Lib.hid hans
                    clear hans hH hve1 hT0 hev
                    go_wp2_with fail
                    obtain ⟨hB12, hk12⟩ := ret_two hB11 hkw11 (Nat.le_refl _) T VH
                    clear q0 q1 q2 q3 p0 p1 p2 p3
                    generalize (w11.setCell ⟨w.heap.size, 0, none⟩ (.string ⟨T.toArray⟩)).setCell ⟨w.heap.size, 1, none⟩ (.string ⟨VH.toArray⟩) = w12 at hB12 hk12 ⊢
                    obtain ⟨y0, y1, _, _⟩ := hB12.cells
                    refine bodyPost_ret (v := .tuple #[.agg #[.string ⟨T.toArray⟩, .string ⟨VH.toArray⟩], .bool false]) (by simp [results, Tryz.results204, go_sem, y0, y1]) rfl ?_
                    rw [hans2.out]
                    exact ⟨⟨T, VH, rfl⟩, hk12⟩
                  · rw [if_pos ⟨hev, hT0⟩] at hH
                    have hans : ANS = some ((T, VH), blanksB DH) := by rw [HRP.out, hH, hve1]
                    have hun := unhex_ne hev hT0
                    rw [← hve1] at hun
                    have hVe : VH.isEmpty = false := by cases VH <;> simp_all
                    have hans2 := Lib.hid hans
                    clear hans hH hve1 hT0 hev hun
                    go_wp2_with fail
                    obtain ⟨hB12, hk12⟩ := ret_two hB11 hkw11 (Nat.le_refl _) T VH
                    have h12 := h11.two (h0 := w.heap.size) (by omega) (.string ⟨T.toArray⟩) (.string ⟨VH.toArray⟩)
                    clear q0 q1 q2 q3 p0 p1 p2 p3
                    generalize (w11.setCell ⟨w.heap.size, 0, none⟩ (.string ⟨T.toArray⟩)).setCell ⟨w.heap.size, 1, none⟩ (.string ⟨VH.toArray⟩) = w12 at hB12 hk12 h12 ⊢
                    obtain ⟨y0, y1, _, _⟩ := hB12.cells
                    refine bodyPost_ret (v := .tuple #[.agg #[.string ⟨T.toArray⟩, .string ⟨VH.toArray⟩], .bool true]) (by simp [results, Tryz.results204, go_sem, y0, y1]) rfl ?_
                    rw [hans2.out]
                    exact ⟨⟨rfl, k11, hk11, hdr11, h12⟩, hk12⟩
                · rw [if_neg hev] at hve
                  obtain ⟨hve1, hve2⟩ := hve
                  rw [if_neg (fun hh => hev hh.1)] at hH
                  have hans : ANS = none := by rw [HRP.out, hH]
                  have hans2 := Lib.hid hans
                  subst hve2
                  clear hans hH hev hve1
                  go_wp2_with fail
                  obtain ⟨hB12, hk12⟩ := ret_two hB11 hkw11 (Nat.le_refl _) T VH
                  clear q0 q1 q2 q3 p0 p1 p2 p3
                  generalize (w11.setCell ⟨w.heap.size, 0, none⟩ (.string ⟨T.toArray⟩)).setCell ⟨w.heap.size, 1, none⟩ (.string ⟨VH.toArray⟩) = w12 at hB12 hk12 ⊢
                  obtain ⟨y0, y1, _, _⟩ := hB12.cells
                  refine bodyPost_ret (v := .tuple #[.agg #[.string ⟨T.toArray⟩, .string ⟨VH.toArray⟩], .bool false]) (by simp [results, Tryz.results204, go_sem, y0, y1]) rfl ?_
                  rw [hans2.out]
                  exact ⟨⟨T, VH, rfl⟩, hk12⟩
            -- SH end
          | false =>
            exfalso
            have := HHY.out r3 HZ.out
            rw [HR5.out, h35] at this
            cases this
end Go.Proofs.YtegigcneimjimaaGreatDoor
