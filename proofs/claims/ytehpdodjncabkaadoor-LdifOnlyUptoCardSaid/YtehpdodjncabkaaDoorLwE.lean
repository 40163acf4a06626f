/- chancerylaw18: the law LdifOnly. -/
import Derived.Test.YtehpdodjncabkaaDoorLwC
import Derived.Laws.IdiomStrings
import Derived.Laws.BitsAllLaws
namespace Go.Proofs.YtehpdodjncabkaaDoor
open Go.RowKit Go.Lib

def turnB (s : List UInt8) (k : Nat) (y : UInt8) : List UInt8 := s.set k ((s[k]?.getD 0) ^^^ y)
theorem turnB_length (s : List UInt8) (k : Nat) (y : UInt8) : (turnB s k y).length = s.length := by simp [turnB]
theorem xor_self (a y : UInt8) : a ^^^ y = a ↔ y = 0 := by
  constructor
  · intro h
    have h2 : a ^^^ (a ^^^ y) = a ^^^ a := by rw [h]
    rw [← UInt8.xor_assoc, UInt8.xor_self, UInt8.zero_xor] at h2
    exact h2
  · rintro rfl
    exact UInt8.xor_zero
theorem turnB_eq {s : List UInt8} {k : Nat} {y : UInt8} (hk : k < s.length) : turnB s k y = s ↔ y = 0 := by
  unfold turnB
  rw [List.getElem?_eq_getElem hk, Option.getD_some]
  constructor
  · intro h
    have h2 : (s.set k (s[k] ^^^ y))[k]? = s[k]? := by rw [h]
    rw [List.getElem?_set_self hk, List.getElem?_eq_getElem hk] at h2
    exact (xor_self _ _).1 (Option.some.inj h2)
  · rintro rfl
    rw [UInt8.xor_zero]
    exact List.set_getElem_self hk
def byB (n : Int) : UInt8 := UInt8.ofNat (n % 256).toNat
theorem byB_wrap (n : Int) : IntKind.u8.wrap n = ((byB n).toNat : Int) := by
  rw [IntKind.wrap_u8']
  unfold byB
  simp only [UInt8.toNat_ofNat']
  omega
theorem byB_zero (n : Int) : ((((byB n).toNat : Nat) : Int) == 0) = decide (byB n = 0) := by
  rw [Bool.eq_iff_iff, beq_iff_eq, decide_eq_true_eq]
  constructor
  · intro h
    exact UInt8.toNat_inj.1 (by simpa using h)
  · intro h
    rw [h]; rfl
theorem xorB (a y : UInt8) : bits .xor .u8 (a.toNat : Int) (y.toNat : Int) = ((a ^^^ y).toNat : Int) := by
  rw [u8_xor_nat _ _ a.toNat_lt y.toNat_lt, UInt8.toNat_xor]
theorem only_same {c x : Chg} {s u : List UInt8} (h : printC c = (s, 0)) (k : parseC u = some x) : sameC x c = decide (u = s) := by
  have hp := parse_prints k
  rw [Bool.eq_iff_iff, sameC_iff, decide_eq_true_eq]
  constructor
  · rintro rfl
    rw [h] at hp
    simp only [Prod.mk.injEq, and_true] at hp
    exact hp.symm
  · rintro rfl
    exact print_inj hp h
theorem parse_small {u : List UInt8} {x : Chg} (k : parseC u = some x) : Small x := by
  unfold parseC at k
  split at k
  · cases k
  · split at k
    · simp only [Option.some.injEq] at k
      rw [← k]
      exact small_record u (by omega)
    · cases k
def LoArgs (vA vM : Value) (c : Chg) (w w' : World) : Prop :=
  w'.heap[w.heap.size]? = some (.cells (chgA c vA vM) 25 (0, 0)) ∧ Below w.heap.size w w'
theorem LoArgs.on {vA vM : Value} {c : Chg} {w w1 w2 : World} (h : LoArgs vA vM c w w1) (hb : Below w1.heap.size w1 w2) : LoArgs vA vM c w w2 :=
  ⟨(hb.block _ (Array.getElem?_eq_some_iff.1 h.1).1).trans h.1, below_ext h.2 hb⟩
/-- The world behind '[]byte(s)' and a byte turned; what lies in the new block. -/
def turnW (W : World) (s : List UInt8) (cap k : Nat) (v : Value) : World :=
  ((W.alloc (.cells (bytesRow ⟨s.toArray⟩ cap) 5 ((bytesRow ⟨s.toArray⟩ cap).size, (bytesRow ⟨s.toArray⟩ cap).size + 1))).setCell ⟨W.heap.size, k, none⟩ v).drew
theorem turnW_below (W : World) (s : List UInt8) (cap k : Nat) (v : Value) : Below W.heap.size W (turnW W s cap k v) :=
  (((Below.refl _ _).alloc (Nat.le_refl _) _).setCell (p := ⟨W.heap.size, k, none⟩) (Nat.le_refl _) _).drew
theorem turnW_cells (W : World) (s : List UInt8) (cap k : Nat) (y : UInt8) (hk : k < s.length) (j : Nat) (u : Value)
    (h : (bV (turnB s k y))[j]? = some u) : (turnW W s cap k (.int .u8 (((s[k] ^^^ y).toNat : Nat) : Int))).cell? ((⟨W.heap.size, 0, none⟩ : Addr).add j) = some u := by
  have hj : j < s.length := by
    have := (List.getElem?_eq_some_iff.1 h).1
    rwa [bV_length, turnB_length] at this
  rw [bV_get _ _ (by rw [turnB_length]; exact hj)] at h
  cases h
  have e0 : ∀ i (hi : i < s.length), (W.alloc (.cells (bytesRow ⟨s.toArray⟩ cap) 5 ((bytesRow ⟨s.toArray⟩ cap).size, (bytesRow ⟨s.toArray⟩ cap).size + 1))).cell? ⟨W.heap.size, i, none⟩ = some (.int .u8 ((s[i].toNat : Nat) : Int)) := fun i hi => by
    rw [World.cell?_alloc_mark, bytesRow_at ⟨s.toArray⟩ cap i (by simpa using hi)]
    simp
  show ((W.alloc _).setCell _ _).cell? _ = _
  rw [Addr.add_lit, Nat.zero_add]
  by_cases hjk : j = k
  · subst hjk
    rw [World.cell?_setCell_same _ _ _ (e0 j hk)]
    simp [turnB, hk]
  · rw [World.cell?_setCell_other _ _ _ _ (by simp only [ne_eq, Addr.mk.injEq, true_and, and_true]; omega), e0 j hj]
    simp only [turnB, List.getElem_set]
    rw [if_neg (fun e => hjk e.symm)]
/-- The place that is turned. -/
theorem place_at (at_ : Int) (n : Nat) (hn : 0 < n) : ∃ k : Nat, k < n ∧ ((0 ≤ at_.tmod (n : Int) ∧ at_.tmod (n : Int) = (k : Int)) ∨ (at_.tmod (n : Int) < 0 ∧ at_.tmod (n : Int) + (n : Int) = (k : Int))) := by
  have h1 : at_.tmod (n : Int) < (n : Int) := Int.tmod_lt_of_pos _ (by omega)
  have h2 : -(n : Int) < at_.tmod (n : Int) := by
    have := Int.tmod_lt_of_pos (-at_) (show (0 : Int) < (n : Int) by omega)
    rw [Int.neg_tmod] at this
    omega
  by_cases h : 0 ≤ at_.tmod (n : Int)
  · exact ⟨(at_.tmod (n : Int)).toNat, by omega, .inl ⟨h, by omega⟩⟩
  · exact ⟨(at_.tmod (n : Int) + (n : Int)).toNat, by omega, .inr ⟨by omega, by omega⟩⟩

set_option maxRecDepth 100000 in
set_option maxHeartbeats 8000000 in
theorem LdifOnly_any (c : Chg) (vA vM : Value) (at_ by_ : Int) (w : World) (hA : AttrsAt w vA c.attrs) (hM : ModsAt w vM c.mods) (hS : Small c) (hE : Env w) :
    Calls Tryd.prog 5 #[.agg (chgA c vA vM), .int .i64 at_, .int .i64 by_] w fun e w' => e = .returned (.bool true) ∧ Below w.heap.size w w' := by
  have L1 : LoArgs vA vM c w (w.alloc (.cells (chgA c vA vM) 25)) := ⟨alloc_at _ _ _ rfl, (Below.refl _ _).alloc (Nat.le_refl _) _⟩
  have k1 := light_any c vA vM _ (hA.below L1.2) (hM.below L1.2)
  have HLC := Lib.hid hS.len
  have HS := Lib.hid hS
  have HA := Lib.hid hA
  have HM := Lib.hid hM
  clear hS hA hM
  obtain ⟨⟨c0, c1, c2, c3, c4, c5, c6, c7, c8, c9⟩, _⟩ := ten_cells L1.1
  unfold chgA at L1 k1 ⊢
  go_enter Tryd.func5, Tryd.ntmps5
  go_wp2_with fail
  refine Calls.mono (show Calls _ _ _ _ _ from k1) ?_
  rintro e w3 ⟨rfl, hb3⟩
  clear c0 c1 c2 c3 c4 c5 c6 c7 c8 c9
  have L3 : LoArgs vA vM c w w3 := L1.on hb3
  clear L1 k1 hb3
  obtain ⟨⟨c0, c1, c2, c3, c4, c5, c6, c7, c8, c9⟩, _⟩ := ten_cells L3.1
  cases hlc : lightC c with
  | false =>
    have k2 := alive_any w3 (hE.below L3.2)
    go_wp2_with fail
    refine Calls.mono (show Calls _ _ _ _ _ from k2) ?_
    rintro e w4 ⟨rfl, hb4⟩
    go_wp2_with fail
    go_ret
    exact ⟨rfl, below_ext L3.2 hb4⟩
  | true =>
    have k3 := Print_any c vA vM w3 (HA.out.below L3.2) (HM.out.below L3.2) (hE.below L3.2) HS.out
    unfold chgA at k3
    obtain ⟨s, n, hsn⟩ : ∃ s n, printC c = (s, n) := ⟨_, _, rfl⟩
    have hlen : n = 0 → s.length ≤ 65536 := fun h => (printC_text (c := c) (by rw [hsn, h])).2.2
    have hne : n = 0 → s ≠ [] := fun h => by
      rw [(printC_text (c := c) (s := s) (by rw [hsn, h])).2.1]
      simp [textC]
    have hem : n ≠ 0 → s = [] := fun h => by have := @printC_empty c; rw [hsn] at this; exact this h
    rw [hsn] at k3
    simp only at k3
    have HLN := Lib.hid hlen
    have HNE := Lib.hid hne
    have HEM := Lib.hid hem
    have HSN := Lib.hid hsn
    clear hlen hne hsn hem
    go_wp2_with fail
    refine Calls.mono (show Calls _ _ _ _ _ from k3) ?_
    rintro e w5 ⟨rfl, hb5⟩
    clear c0 c1 c2 c3 c4 c5 c6 c7 c8 c9
    have L5 := L3.on hb5
    clear L3 k3 hb5
    obtain ⟨⟨c0, c1, c2, c3, c4, c5, c6, c7, c8, c9⟩, _⟩ := ten_cells L5.1
    have ka := alive_any w5 (hE.below L5.2)
    by_cases hn : n = 0
    · subst hn
      have hsl := HLN.out rfl
      have hsne := HNE.out rfl
      have hpos : 0 < s.length := List.length_pos_iff.2 hsne
      by_cases hbig : 20000 < s.length
      · have g1 : decide ((20000 : Int) < (s.length : Int)) = true := decide_eq_true (by omega)
        go_wp2_with fail
        refine Calls.mono (show Calls _ _ _ _ _ from ka) ?_
        rintro e w6 ⟨rfl, hb6⟩
        go_wp2_with fail
        go_ret
        exact ⟨rfl, below_ext L5.2 hb6⟩
      · have g1 : decide ((20000 : Int) < (s.length : Int)) = false := decide_eq_false (by omega)
        have g2 : ((s.length : Int) == 0) = false := by simpa using hsne
        obtain ⟨kk, hkk, hplace⟩ := place_at at_ s.length hpos
        have HPL := Lib.hid hplace
        clear hplace
        clear hsne
        have hcv := run_bytes_of_string (P := Tryd.prog) w5 9 41 5 ⟨s.toArray⟩ Tryd.underlying9 Tryd.underlying41 Tryd.underlying5
        obtain ⟨cap, hcap⟩ : ∃ cap, grownCap w5 (ByteArray.mk s.toArray).size 0 5 = cap := ⟨_, rfl⟩
        rw [hcap] at hcv
        clear hcap
        obtain ⟨x0, hx0⟩ : ∃ x0, s[kk] = x0 := ⟨_, rfl⟩
        have hc0 : (w5.alloc (.cells (bytesRow ⟨s.toArray⟩ cap) 5 ((bytesRow ⟨s.toArray⟩ cap).size, (bytesRow ⟨s.toArray⟩ cap).size + 1))).cell? ⟨w5.heap.size, kk, none⟩ = some (.int .u8 ((x0.toNat : Nat) : Int)) := by
          rw [World.cell?_alloc_mark, bytesRow_at ⟨s.toArray⟩ cap kk (by simpa using hkk), ← hx0]
          simp
        have hz0 : (w5.alloc (.cells (bytesRow ⟨s.toArray⟩ cap) 5 ((bytesRow ⟨s.toArray⟩ cap).size, (bytesRow ⟨s.toArray⟩ cap).size + 1))).frozen? ⟨w5.heap.size, kk, none⟩ = false := by
          rw [World.frozen?_alloc_mark]
          have hsz : s.length ≤ (bytesRow ⟨s.toArray⟩ cap).size := by simp [bytesRow]
          rw [decide_eq_false (by omega)]
          rfl
        have hby := byB_wrap by_
        obtain ⟨y, hy⟩ : ∃ y, byB by_ = y := ⟨_, rfl⟩
        have hzero : (((y.toNat : Nat) : Int) == 0) = decide (y = 0) := by rw [← hy]; exact byB_zero by_
        rw [hy] at hby
        obtain ⟨u, hu⟩ : ∃ u, turnB s kk y = u := ⟨_, rfl⟩
        have hul : u.length = s.length := by rw [← hu, turnB_length]
        have hus : decide (u = s) = decide (y = 0) := by rw [← hu]; exact decide_eq_decide.2 (turnB_eq hkk)
        have HUS := Lib.hid hus
        have HZ := Lib.hid hzero
        have hcells := turnW_cells w5 s cap kk y hkk
        rw [hx0, hu, ← xorB] at hcells
        have hbt := turnW_below w5 s cap kk (.int .u8 (bits .xor .u8 ((x0.toNat : Nat) : Int) ((y.toNat : Nat) : Int)))
        have HCL := Lib.hid hcells
        have HBT := Lib.hid hbt
        unfold turnW at HCL HBT
        clear hus hzero hcells hbt
        rcases HPL.out with ⟨h0, hk⟩ | ⟨h0, hk⟩
        case' inl => have d1 : decide (at_.tmod (s.length : Int) < 0) = false := decide_eq_false (by omega)
        case' inr => have d1 : decide (at_.tmod (s.length : Int) < 0) = true := decide_eq_true (by omega)
        all_goals
          go_wp2_with fail
          generalize ((w5.alloc (.cells (bytesRow ⟨s.toArray⟩ cap) 5 ((bytesRow ⟨s.toArray⟩ cap).size, (bytesRow ⟨s.toArray⟩ cap).size + 1))).setCell ⟨w5.heap.size, kk, none⟩ (.int .u8 (bits .xor .u8 ((x0.toNat : Nat) : Int) ((y.toNat : Nat) : Int)))).drew = w6 at HCL HBT ⊢
          have hback := run_str_cells (P := Tryd.prog) w6 41 9 5 ⟨w5.heap.size, 0, none⟩ cap u Tryd.underlying41 Tryd.underlying5 Tryd.underlying9 HCL.out
          rw [hul] at hback
          rw [hback]
          clear c0 c1 c2 c3 c4 c5 c6 c7 c8 c9 hcv hc0 hz0
          have L6 := L5.on HBT.out
          obtain ⟨⟨c0, c1, c2, c3, c4, c5, c6, c7, c8, c9⟩, _⟩ := ten_cells L6.1
          have k5 := Parse_any u w6 (by omega) (hE.below L6.2)
          unfold ParsePost at k5
          cases hp : parseC u with
          | none =>
            rw [hp, if_neg (by omega)] at k5
            unfold chgA zeroC at k5
            simp only at k5
            go_wp2_with fail
            refine Calls.mono (show Calls _ _ _ _ _ from k5) ?_
            rintro e w7 ⟨hb7, rfl⟩
            have L7 := L6.on hb7
            have hbX : Below w7.heap.size w7 (w7.alloc (.cells #[.string ⟨#[]⟩, .string ⟨#[]⟩, .string ⟨#[]⟩, .int .i64 0, .slice none 0 0, .slice none 0 0, .string ⟨#[]⟩, .string ⟨#[]⟩, .bool false, .bool false] 25)) := (Below.refl _ _).alloc (Nat.le_refl _) _
            have L8 := L7.on hbX
            have k6 := alive_any _ (hE.below L8.2)
            clear c0 c1 c2 c3 c4 c5 c6 c7 c8 c9
            go_wp2_with fail
            refine Calls.mono (show Calls _ _ _ _ _ from k6) ?_
            rintro e w9 ⟨rfl, hb9⟩
            go_wp2_with fail
            go_ret
            exact ⟨rfl, below_ext L8.2 hb9⟩
          | some x =>
            rw [hp] at k5
            simp only at k5
            have hpx := parse_prints hp
            have hsx := parse_small hp
            have hsame : sameC x c = decide (u = s) := only_same HSN.out hp
            rw [HUS.out] at hsame
            have HPX := Lib.hid hpx
            have HSX := Lib.hid hsx
            have HSM := Lib.hid hsame
            clear hp hpx hsx hsame
            go_wp2_with fail
            refine Calls.mono (show Calls _ _ _ _ _ from k5) ?_
            rintro e w7 ⟨hb7, xA, xM, rfl, hx⟩
            clear c0 c1 c2 c3 c4 c5 c6 c7 c8 c9
            have L7 := L6.on hb7
            obtain ⟨hxA, hxM⟩ := hx w7 (fun _ _ _ => rfl)
            have HXA := Lib.hid hxA
            have HXM := Lib.hid hxM
            obtain ⟨aX, cX, rfl, _⟩ := hxA
            obtain ⟨aY, cY, rfl, _⟩ := hxM
            have hbX : Below w7.heap.size w7 (w7.alloc (.cells (chgA x (.slice aX x.attrs.length cX) (.slice aY x.mods.length cY)) 25)) := (Below.refl _ _).alloc (Nat.le_refl _) _
            have hX : (w7.alloc (.cells (chgA x (.slice aX x.attrs.length cX) (.slice aY x.mods.length cY)) 25)).heap[w7.heap.size]? = some (.cells (chgA x (.slice aX x.attrs.length cX) (.slice aY x.mods.length cY)) 25 (0, 0)) := alloc_at _ _ _ rfl
            have k6 := Print_any x _ _ _ (HXA.out.below hbX) (HXM.out.below hbX) (hE.below (L7.on hbX).2) HSX.out
            rw [HPX.out] at k6
            have L8 := L7.on hbX
            have hbb8 := below_ext hb7 hbX
            clear hx hb7 k5
            unfold chgA at k6 hX L8 hbX ⊢
            obtain ⟨⟨x0', x1, x2, x3, x4, x5, x6, x7, x8, x9⟩, _⟩ := ten_cells hX
            go_wp2_with fail
            refine Calls.mono (show Calls _ _ _ _ _ from k6) ?_
            rintro e w9 ⟨rfl, hb9⟩
            have L9 : LoArgs vA vM c w w9 := L8.on hb9
            have hbb9 := below_ext hbb8 hb9
            have hX9 := (hb9.block _ (Array.getElem?_eq_some_iff.1 hX).1).trans hX
            clear x0' x1 x2 x3 x4 x5 x6 x7 x8 x9 L8 hX k6
            have k7 := alive_any w9 (hE.below L9.2)
            go_wp2_with fail
            refine Calls.mono (show Calls _ _ _ _ _ from k7) ?_
            rintro e w10 ⟨rfl, hb10⟩
            have L10 := L9.on hb10
            have hbb10 := below_ext hbb9 hb10
            have hX10 := (hb10.block _ (Array.getElem?_eq_some_iff.1 hX9).1).trans hX9
            clear L9 hX9 k7
            have hback2 := run_str_cells (P := Tryd.prog) w10 41 9 5 ⟨w5.heap.size, 0, none⟩ cap u Tryd.underlying41 Tryd.underlying5 Tryd.underlying9 (fun j v h => (hbb10.cell (lt_of_cell (HCL.out j v h))).trans (HCL.out j v h))
            rw [hul] at hback2
            have k8 := Same_any x c (.slice aX x.attrs.length cX) (.slice aY x.mods.length cY) vA vM w10 ((HXA.out.below hbX).below (below_ext hb9 hb10)) ((HXM.out.below hbX).below (below_ext hb9 hb10)) (HA.out.below L10.2) (HM.out.below L10.2) HSX.out.len HLC.out
            rw [HSM.out] at k8
            unfold chgA at k8
            have hz := HZ.out
            obtain ⟨bz, hbz⟩ : ∃ b, decide (y = 0) = b := ⟨_, rfl⟩
            rw [hbz] at k8 hz
            clear hbz
            obtain ⟨⟨c0, c1, c2, c3, c4, c5, c6, c7, c8, c9⟩, _⟩ := ten_cells L10.1
            obtain ⟨⟨x0', x1, x2, x3, x4, x5, x6, x7, x8, x9⟩, _⟩ := ten_cells hX10
            go_wp2_with fail
            try rw [hback2]
            try go_wp2_with fail
            refine Calls.mono (show Calls _ _ _ _ _ from k8) ?_
            rintro e w11 ⟨rfl, hb11⟩
            go_wp2_with fail
            go_ret
            exact ⟨by simp, below_ext L10.2 hb11⟩
    · have hnb : (n == 0) = false := by simpa using hn
      have hnn : (n != 0) = true := by simpa using hn
      go_wp2_with fail
      refine Calls.mono (show Calls _ _ _ _ _ from ka) ?_
      rintro e w6 ⟨rfl, hb6⟩
      go_wp2_with fail
      go_ret
      exact ⟨rfl, below_ext L5.2 hb6⟩
end Go.Proofs.YtehpdodjncabkaaDoor
