/- chancerylaw18: the law LdifBack. -/
import Derived.Test.YtehpdodjncabkaaDoorLwC
namespace Go.Proofs.YtehpdodjncabkaaDoor
open Go.RowKit Go.Lib

set_option maxRecDepth 100000 in
set_option maxHeartbeats 8000000 in
theorem LdifBack_any (c d : Chg) (vA vM uA uM : Value) (w : World) (hA : AttrsAt w vA c.attrs) (hM : ModsAt w vM c.mods) (hA2 : AttrsAt w uA d.attrs) (hM2 : ModsAt w uM d.mods) (hS : Small c) (hS2 : Small d) (hE : Env w) :
    Calls Tryd.prog 4 #[.agg (chgA c vA vM), .agg (chgA d uA uM)] w fun e w' => e = .returned (.bool true) ∧ Below w.heap.size w w' := by
  have L2 : LbArgs vA vM uA uM c d w ((w.alloc (.cells (chgA c vA vM) 25)).alloc (.cells (chgA d uA uM) 25)) := by
    refine ⟨(Lib.alloc_old _ _ _ (by simp)).trans (alloc_at _ _ _ rfl), alloc_at _ _ _ (by simp), ((Below.refl _ _).alloc (Nat.le_refl _) _).alloc (by simp) _⟩
  have k1 := light_any c vA vM _ (hA.below L2.2.2) (hM.below L2.2.2)
  have HLC := Lib.hid hS.len
  have HLD := Lib.hid hS2.len
  have HS := Lib.hid hS
  have HS2 := Lib.hid hS2
  have HA := Lib.hid hA
  have HM := Lib.hid hM
  have HA2 := Lib.hid hA2
  have HM2 := Lib.hid hM2
  clear hS hS2 hA hM hA2 hM2
  obtain ⟨⟨c0, c1, c2, c3, c4, c5, c6, c7, c8, c9⟩, d0, d1, d2, d3, d4, d5, d6, d7, d8, d9⟩ := L2.cells
  unfold chgA at L2 k1 ⊢
  go_enter Tryd.func4, Tryd.ntmps4
  go_wp2_with fail
  refine Calls.mono (show Calls _ _ _ _ _ from k1) ?_
  rintro e w3 ⟨rfl, hb3⟩
  clear c0 c1 c2 c3 c4 c5 c6 c7 c8 c9 d0 d1 d2 d3 d4 d5 d6 d7 d8 d9
  have L3 : LbArgs vA vM uA uM c d w w3 := L2.on hb3
  clear L2 k1 hb3
  obtain ⟨⟨c0, c1, c2, c3, c4, c5, c6, c7, c8, c9⟩, d0, d1, d2, d3, d4, d5, d6, d7, d8, d9⟩ := L3.cells
  cases hlc : lightC c with
  | false =>
    have k2 := alive_any w3 (hE.below L3.2.2)
    go_wp2_with fail
    refine Calls.mono (show Calls _ _ _ _ _ from k2) ?_
    rintro e w4 ⟨rfl, hb4⟩
    go_wp2_with fail
    go_ret
    exact ⟨rfl, below_ext L3.2.2 hb4⟩
  | true =>
    have k2 := light_any d uA uM w3 (HA2.out.below L3.2.2) (HM2.out.below L3.2.2)
    unfold chgA at k2
    go_wp2_with fail
    refine Calls.mono (show Calls _ _ _ _ _ from k2) ?_
    rintro e w4 ⟨rfl, hb4⟩
    clear c0 c1 c2 c3 c4 c5 c6 c7 c8 c9 d0 d1 d2 d3 d4 d5 d6 d7 d8 d9
    have L4 := L3.on hb4
    clear L3 k2 hb4
    obtain ⟨⟨c0, c1, c2, c3, c4, c5, c6, c7, c8, c9⟩, d0, d1, d2, d3, d4, d5, d6, d7, d8, d9⟩ := L4.cells
    cases hld : lightC d with
    | false =>
      have k3 := alive_any w4 (hE.below L4.2.2)
      go_wp2_with fail
      refine Calls.mono (show Calls _ _ _ _ _ from k3) ?_
      rintro e w5 ⟨rfl, hb5⟩
      go_wp2_with fail
      go_ret
      exact ⟨rfl, below_ext L4.2.2 hb5⟩
    | true =>
      have k3 := Print_any c vA vM w4 (HA.out.below L4.2.2) (HM.out.below L4.2.2) (hE.below L4.2.2) HS.out
      unfold chgA at k3
      obtain ⟨s, n, hsn⟩ : ∃ s n, printC c = (s, n) := ⟨_, _, rfl⟩
      have hem : n ≠ 0 → s = [] := fun h => by have := @printC_empty c; rw [hsn] at this; exact this h
      have hbk : n = 0 → parseC s = some c := fun h => parse_back (by rw [hsn, h])
      have hlen : n = 0 → s.length ≤ 65536 := fun h => (printC_text (c := c) (by rw [hsn, h])).2.2
      rw [hsn] at k3
      simp only at k3
      have HEM := Lib.hid hem
      have HBK := Lib.hid hbk
      have HLN := Lib.hid hlen
      have HSN := Lib.hid hsn
      clear hem hbk hlen hsn
      go_wp2_with fail
      refine Calls.mono (show Calls _ _ _ _ _ from k3) ?_
      rintro e w5 ⟨rfl, hb5⟩
      clear c0 c1 c2 c3 c4 c5 c6 c7 c8 c9 d0 d1 d2 d3 d4 d5 d6 d7 d8 d9
      have L5 := L4.on hb5
      clear L4 k3 hb5
      obtain ⟨⟨c0, c1, c2, c3, c4, c5, c6, c7, c8, c9⟩, d0, d1, d2, d3, d4, d5, d6, d7, d8, d9⟩ := L5.cells
      have k4 := Print_any d uA uM w5 (HA2.out.below L5.2.2) (HM2.out.below L5.2.2) (hE.below L5.2.2) HS2.out
      unfold chgA at k4
      obtain ⟨t, m, htm⟩ : ∃ t m, printC d = (t, m) := ⟨_, _, rfl⟩
      rw [htm] at k4
      simp only at k4
      have HTM := Lib.hid htm
      clear htm
      go_wp2_with fail
      refine Calls.mono (show Calls _ _ _ _ _ from k4) ?_
      rintro e w6 ⟨rfl, hb6⟩
      clear c0 c1 c2 c3 c4 c5 c6 c7 c8 c9 d0 d1 d2 d3 d4 d5 d6 d7 d8 d9
      have L6 := L5.on hb6
      clear L5 k4 hb6
      obtain ⟨⟨c0, c1, c2, c3, c4, c5, c6, c7, c8, c9⟩, d0, d1, d2, d3, d4, d5, d6, d7, d8, d9⟩ := L6.cells
      by_cases hn : n = 0
      · subst hn
        have hsl := HLN.out rfl
        have k5 := Parse_any s w6 (by omega) (hE.below L6.2.2)
        unfold ParsePost at k5
        rw [HBK.out rfl] at k5
        simp only at k5
        go_wp2_with fail
        refine Calls.mono (show Calls _ _ _ _ _ from k5) ?_
        rintro e w7 ⟨hb7, xA, xM, rfl, hx⟩
        clear c0 c1 c2 c3 c4 c5 c6 c7 c8 c9 d0 d1 d2 d3 d4 d5 d6 d7 d8 d9
        have L7 := L6.on hb7
        clear L6 k5
        obtain ⟨⟨c0, c1, c2, c3, c4, c5, c6, c7, c8, c9⟩, d0, d1, d2, d3, d4, d5, d6, d7, d8, d9⟩ := L7.cells
        obtain ⟨hxA, hxM⟩ := hx w7 (fun _ _ _ => rfl)
        have HXA := Lib.hid hxA
        have HXM := Lib.hid hxM
        obtain ⟨aX, cX, rfl, _⟩ := hxA
        obtain ⟨aY, cY, rfl, _⟩ := hxM
        have hbX : Below w7.heap.size w7 (w7.alloc (.cells (chgA c (.slice aX c.attrs.length cX) (.slice aY c.mods.length cY)) 25)) := (Below.refl _ _).alloc (Nat.le_refl _) _
        have hX : (w7.alloc (.cells (chgA c (.slice aX c.attrs.length cX) (.slice aY c.mods.length cY)) 25)).heap[w7.heap.size]? = some (.cells (chgA c (.slice aX c.attrs.length cX) (.slice aY c.mods.length cY)) 25 (0, 0)) := alloc_at _ _ _ rfl
        have k6 := Same_any c c _ _ vA vM _ (HXA.out.below hbX) (HXM.out.below hbX) ((HA.out.below L7.2.2).below hbX) ((HM.out.below L7.2.2).below hbX) HLC.out HLC.out
        rw [(sameC_iff c c).2 rfl] at k6
        have L8 := L7.on hbX
        clear hx hb7
        unfold chgA at k6 hX L8 hbX ⊢
        clear c0 c1 c2 c3 c4 c5 c6 c7 c8 c9 d0 d1 d2 d3 d4 d5 d6 d7 d8 d9
        obtain ⟨⟨c0, c1, c2, c3, c4, c5, c6, c7, c8, c9⟩, d0, d1, d2, d3, d4, d5, d6, d7, d8, d9⟩ := L8.cells
        obtain ⟨⟨x0, x1, x2, x3, x4, x5, x6, x7, x8, x9⟩, _⟩ := ten_cells hX
        go_wp2_with fail
        refine Calls.mono (show Calls _ _ _ _ _ from k6) ?_
        rintro e w9 ⟨rfl, hb9⟩
        clear c0 c1 c2 c3 c4 c5 c6 c7 c8 c9 d0 d1 d2 d3 d4 d5 d6 d7 d8 d9
        clear x0 x1 x2 x3 x4 x5 x6 x7 x8 x9 hX
        have L9 : LbArgs vA vM uA uM c d w w9 := L8.on hb9
        clear L8 hbX
        obtain ⟨⟨c0, c1, c2, c3, c4, c5, c6, c7, c8, c9⟩, d0, d1, d2, d3, d4, d5, d6, d7, d8, d9⟩ := L9.cells
        have k7 := alive_any w9 (hE.below L9.2.2)
        go_wp2_with fail
        refine Calls.mono (show Calls _ _ _ _ _ from k7) ?_
        rintro e w10 ⟨rfl, hb10⟩
        clear c0 c1 c2 c3 c4 c5 c6 c7 c8 c9 d0 d1 d2 d3 d4 d5 d6 d7 d8 d9
        have L10 := L9.on hb10
        clear L9 k6 k7
        obtain ⟨⟨c0, c1, c2, c3, c4, c5, c6, c7, c8, c9⟩, d0, d1, d2, d3, d4, d5, d6, d7, d8, d9⟩ := L10.cells
        by_cases hm : m = 0
        · subst hm
          have k8 := Same_any c d vA vM uA uM w10 (HA.out.below L10.2.2) (HM.out.below L10.2.2) (HA2.out.below L10.2.2) (HM2.out.below L10.2.2) HLC.out HLD.out
          have hst : (s == t) = sameC c d := by
            rw [Bool.eq_iff_iff, sameC_iff]
            constructor
            · intro h
              have h := beq_iff_eq.1 h
              subst h
              exact print_inj HSN.out HTM.out
            · intro h
              subst h
              have := HSN.out.symm.trans HTM.out
              simp only [Prod.mk.injEq, and_true] at this
              subst this
              simp
          obtain ⟨b, hb⟩ : ∃ b, sameC c d = b := ⟨_, rfl⟩
          rw [hb] at k8 hst
          clear hb
          unfold chgA at k8
          go_wp2_with fail
          refine Calls.mono (show Calls _ _ _ _ _ from k8) ?_
          rintro e w11 ⟨rfl, hb11⟩
          go_wp2_with fail
          go_ret
          exact ⟨by simp, below_ext L10.2.2 hb11⟩
        · have hmb : (m == 0) = false := by simpa using hm
          have hmn : (m != 0) = true := by simpa using hm
          go_wp2_with fail
          go_ret
          exact ⟨rfl, L10.2.2⟩
      · have hnb : (n == 0) = false := by simpa using hn
        have hnn : (n != 0) = true := by simpa using hn
        obtain rfl : s = [] := HEM.out hn
        have k5 := alive_any w6 (hE.below L6.2.2)
        go_wp2_with fail
        refine Calls.mono (show Calls _ _ _ _ _ from k5) ?_
        rintro e w7 ⟨rfl, hb7⟩
        go_wp2_with fail
        go_ret
        exact ⟨rfl, below_ext L6.2.2 hb7⟩
end Go.Proofs.YtehpdodjncabkaaDoor
