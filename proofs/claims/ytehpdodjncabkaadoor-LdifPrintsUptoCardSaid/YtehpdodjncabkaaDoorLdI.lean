/- ldif.right: records that are added. -/
import Derived.Deep.CutBlock
import Derived.Deep.DeepCutAuto
import Derived.Deep.CutRange
import Derived.Test.YtehpdodjncabkaaDoorDnTL
import Derived.Test.YtehpdodjncabkaaDoorLdC
import Derived.Deep.RegionHeld3
import Derived.Test.YtehpdodjncabkaaDoorStepR
namespace Go.Proofs.YtehpdodjncabkaaDoor
open Go.RowKit Go.Lib

/-- The type ahead of an attribute. -/
def prevT (al : List At) (k : Nat) : Option (List UInt8) := if k = 0 then none else (al[k - 1]?).map Prod.fst
theorem attrsOk_step (al : List At) (k : Nat) (x : At) (h : al[k]? = some x) :
    attrsOk (prevT al k) (al.drop k) = (isTyB x.1 && !x.2.isEmpty && !(prevT al k == some x.1) && attrsOk (prevT al (k + 1)) (al.drop (k + 1))) := by
  have h1 : k < al.length := (List.getElem?_eq_some_iff.1 h).1
  have h2 : al[k] = x := (List.getElem?_eq_some_iff.1 h).2
  rw [List.drop_eq_getElem_cons h1, h2, show prevT al (k + 1) = some x.1 from by simp [prevT, h]]
  rfl
def RR (B : Nat) (al : List At) (w : World) (i : Value) (wr : World) : Prop :=
  ∃ k : Nat, i = .int .i64 (k : Int) ∧ k ≤ al.length ∧ attrsOk none al = attrsOk (prevT al k) (al.drop k) ∧ Below B w wr
set_option maxRecDepth 100000 in
set_option maxHeartbeats 2000000 in
theorem right_add (sT sW sD : List UInt8) (aA aM : _) (cA cM : Nat) (al : List At) (w : World) (hA : AttrsAt w (.slice aA al.length cA) al) (hE : Env w) (hal : al.length ≤ 1099511627776) (hty : ∀ x ∈ al, x.1.length ≤ 1099511627776 ∧ x.2.length ≤ 1099511627776) :
    Calls Tryd.prog 20 #[.agg #[.string ⟨sT.toArray⟩, .string ⟨sW.toArray⟩, .string ⟨sD.toArray⟩, .int .i64 0, .slice aA al.length cA, .slice aM 0 cM, .string ⟨#[]⟩, .string ⟨#[]⟩, .bool false, .bool false]] w fun e w' => e = .returned (.bool (attrsOk none al)) ∧ Below w.heap.size w w' := by
  have HA := Lib.hid hA
  have HT := Lib.hid hty
  clear hA hty
  obtain ⟨PR, hPR⟩ : ∃ b, attrsOk none al = b := ⟨_, rfl⟩
  rw [hPR]
  have HP := Lib.hid hPR
  clear hPR
  obtain ⟨C, hC⟩ : ∃ C : Array Value, #[.string ⟨sT.toArray⟩, .string ⟨sW.toArray⟩, .string ⟨sD.toArray⟩, .int .i64 0, .slice aA al.length cA, .slice aM 0 cM, .string ⟨#[]⟩, .string ⟨#[]⟩, .bool false, .bool false] = C := ⟨_, rfl⟩
  have hb1 : Below w.heap.size w (w.alloc (.cells C 25)) := (Below.refl _ _).alloc (Nat.le_refl _) _
  have hs1 : w.heap.size < (w.alloc (.cells C 25)).heap.size := by simp
  have hk1 : (w.alloc (.cells C 25)).heap[w.heap.size]? = some (.cells C 25 (0, 0)) := alloc_at _ _ _ rfl
  have d4 : (w.alloc (.cells C 25)).cell? ⟨w.heap.size, 4, none⟩ = some (.slice aA al.length cA) := by rw [Lib.cell_of_heap hk1, ← hC]; rfl
  have d5 : (w.alloc (.cells C 25)).cell? ⟨w.heap.size, 5, none⟩ = some (.slice aM 0 cM) := by rw [Lib.cell_of_heap hk1, ← hC]; rfl
  rw [← hC] at hb1 hs1 d4 d5
  clear hk1 hC
  go_enter Tryd.func20, Tryd.ntmps20
  go_wp2_with fail
  generalize w.alloc (.cells #[.string ⟨sT.toArray⟩, .string ⟨sW.toArray⟩, .string ⟨sD.toArray⟩, .int .i64 0, .slice aA al.length cA, .slice aM 0 cM, .string ⟨#[]⟩, .string ⟨#[]⟩, .bool false, .bool false] 25) = w1 at hb1 hs1 d4 d5 ⊢
  generalize w.heap.size = G at hs1 d4 d5 ⊢
  go_loopw [64] (fun i wr => RR w1.heap.size al w1 i wr) (fun i _ => al.length - (RowKit.intOf i).toNat)
  case atStart => exact ⟨0, rfl, by omega, by simp [prevT], Below.refl _ _⟩
  case round =>
    obtain ⟨k, rfl, hk, hok, hbe⟩ := hrel
    by_cases hkl : k < al.length
    · obtain ⟨x, hx⟩ : ∃ x, al[k] = x := ⟨_, rfl⟩
      have hxk : al[k]? = some x := by rw [List.getElem?_eq_getElem hkl, hx]
      have hst := attrsOk_step al k x hxk
      rw [← hok, HP.out] at hst
      have HS := Lib.hid hst
      have HO := Lib.hid hok
      clear hst hok
      have hne : al ≠ [] := by intro e; rw [e] at hkl; simp at hkl
      have hmem : x ∈ al := List.mem_of_getElem? hxk
      obtain ⟨hx1, hx2⟩ := HT.out x hmem
      obtain ⟨a2, c2, e2, _, hcell⟩ := HA.out
      obtain ⟨g, o, hag, hcc⟩ := hcell hne
      cases e2
      subst hag
      obtain ⟨p1', u, p2', hu⟩ := hcc k x hxk
      have hbw : Below w.heap.size w wr := below_ext hb1 hbe
      have p1 := (hbw.cell (lt_of_cell p1')).trans p1'
      have p2 := (hbw.cell (lt_of_cell p2')).trans p2'
      have hEr := hE.below hbw
      obtain ⟨au, cu, hue, _, _⟩ := hu
      subst hue
      have gk : decide ((k : Int) < (al.length : Int)) = true := decide_eq_true (by omega)
      have gk2 : (k : Int) < (al.length : Int) := by omega
      have hbA : Below wr.heap.size wr (wr.alloc (.cells #[.string ⟨x.1.toArray⟩, .slice au x.2.length cu] 51)) := (Below.refl _ _).alloc (Nat.le_refl _) _
      have hkA : (wr.alloc (.cells #[.string ⟨x.1.toArray⟩, .slice au x.2.length cu] 51)).heap[wr.heap.size]? = some (.cells #[.string ⟨x.1.toArray⟩, .slice au x.2.length cu] 51 (0, 0)) := alloc_at _ _ _ rfl
      have hsA : wr.heap.size < (wr.alloc (.cells #[.string ⟨x.1.toArray⟩, .slice au x.2.length cu] 51)).heap.size := by simp
      have hEA := hEr.below hbA
      have hbwA := below_ext hbw hbA
      have dA : wr.cell? ⟨G, 4, none⟩ = some (.slice (some ⟨g, o, none⟩) al.length cA) := (hbe.cell (p := ⟨G, 4, none⟩) hs1).trans d4
      have dA2 : wr.cell? ⟨G, 5, none⟩ = some (.slice aM 0 cM) := (hbe.cell (p := ⟨G, 5, none⟩) hs1).trans d5
      have hbeA := hbe.trans (hbA.mono hbe.size)
      clear hx hxk hmem hcell p1' p2'
      go_upto_region 10 with fail
      generalize wr.alloc (.cells #[.string ⟨x.1.toArray⟩, .slice au x.2.length cu] 51) = wA at hbA hkA hsA hEA hbwA hbeA ⊢
      have e4 : wA.cell? ⟨G, 4, none⟩ = some (.slice (some ⟨g, o, none⟩) al.length cA) := (hbA.cell (p := ⟨G, 4, none⟩) (lt_of_cell dA)).trans dA
      have a0 : wA.cell? ⟨wr.heap.size, 0, none⟩ = some (.string ⟨x.1.toArray⟩) := by rw [Lib.cell_of_heap hkA]; rfl
      have a1 : wA.cell? ⟨wr.heap.size, 1, none⟩ = some (.slice au x.2.length cu) := by rw [Lib.cell_of_heap hkA]; rfl
      clear p1 p2 dA dA2 hkA
      generalize wr.heap.size = GA at a0 a1 hsA hbA ⊢
      have kT := IsType_any x.1 wA.drew hx1 (hEA.below (Below.drew (Below.refl _ _)))
      cases hT : isTyB x.1 with
      | false =>
        rw [hT] at kT
        have HPR : PR = false := by rw [HS.out, hT]; rfl
        subst HPR
        clear hT
        -- A
        refine wp_region_any (by kernel_rfl) ?_
        change wpAny _ _ _ _ _ _ _ (World.drew _)
        refine any_one 0 (by kernel_rfl) rfl (by rfl) (fun K hK => ?_); go_simp; refine hK _ _ ?_; clear hK K
        refine any_one 1 (by kernel_rfl) rfl (by rfl) (fun K hK => ?_); go_simp; refine hK _ _ ?_; clear hK K
        refine any_one 2 (by kernel_rfl) rfl (by rfl) (fun K hK => ?_); go_simp; go_wp2_with (go_at_call 45; refine Calls.mono (show Calls _ _ _ _ _ from kT) ?_; rintro e w5 ⟨rfl, hb5⟩)
        refine any_one 3 (by kernel_rfl) rfl (by rfl) (fun K hK => ?_); go_simp; refine hK _ _ ?_; clear hK K
        refine any_one 4 (by kernel_rfl) rfl (by rfl) (fun K hK => ?_); go_simp; refine hK _ _ ?_; clear hK K
        refine any_skip 5 rfl (by kernel_rfl) (by kernel_rfl) (by kernel_rfl) (fun _ _ _ h => h) (by rfl) (fun K hK => ?_); go_simp; refine hK _ _ ?_; clear hK K
        refine any_skip 6 rfl (by kernel_rfl) (by kernel_rfl) (by kernel_rfl) (fun _ _ _ h => h) (by rfl) (fun K hK => ?_); go_simp; refine hK _ _ ?_; clear hK K
        refine any_skip 7 rfl (by kernel_rfl) (by kernel_rfl) (by kernel_rfl) (fun _ _ _ h => h) (by rfl) (fun K hK => ?_); go_simp; refine hK _ _ ?_; clear hK K
        refine any_skip 8 rfl (by kernel_rfl) (by kernel_rfl) (by kernel_rfl) (fun _ _ _ h => h) (by rfl) (fun K hK => ?_); go_simp; refine hK _ _ ?_; clear hK K
        refine any_one 9 (by kernel_rfl) rfl (by rfl) (fun K hK => ?_); go_simp; refine hK _ _ ?_; clear hK K
        refine any_one 10 (by kernel_rfl) rfl (by rfl) (fun K hK => ?_); go_simp; refine hK _ _ ?_; clear hK K
        refine any_skip 11 rfl (by kernel_rfl) (by kernel_rfl) (by kernel_rfl) (fun _ _ _ h => h) (by rfl) (fun K hK => ?_); go_simp; refine hK _ _ ?_; clear hK K
        refine any_skip 12 rfl (by kernel_rfl) (by kernel_rfl) (by kernel_rfl) (fun _ _ _ h => h) (by rfl) (fun K hK => ?_); go_simp; refine hK _ _ ?_; clear hK K
        refine any_skip 13 rfl (by kernel_rfl) (by kernel_rfl) (by kernel_rfl) (fun _ _ _ h => h) (by rfl) (fun K hK => ?_); go_simp; refine hK _ _ ?_; clear hK K
        refine any_skip 14 rfl (by kernel_rfl) (by kernel_rfl) (by kernel_rfl) (fun _ _ _ h => h) (by rfl) (fun K hK => ?_); go_simp; refine hK _ _ ?_; clear hK K
        refine any_skip 15 rfl (by kernel_rfl) (by kernel_rfl) (by kernel_rfl) (fun _ _ _ h => h) (by rfl) (fun K hK => ?_); go_simp; refine hK _ _ ?_; clear hK K
        refine any_skip 16 rfl (by kernel_rfl) (by kernel_rfl) (by kernel_rfl) (fun _ _ _ h => h) (by rfl) (fun K hK => ?_); go_simp; refine hK _ _ ?_; clear hK K
        refine any_skip 17 rfl (by kernel_rfl) (by kernel_rfl) (by kernel_rfl) (fun _ _ _ h => h) (by rfl) (fun K hK => ?_); go_simp; refine hK _ _ ?_; clear hK K
        refine any_skip 18 rfl (by kernel_rfl) (by kernel_rfl) (by kernel_rfl) (fun _ _ _ h => h) (by rfl) (fun K hK => ?_); go_simp; refine hK _ _ ?_; clear hK K
        refine any_skip 19 rfl (by kernel_rfl) (by kernel_rfl) (by kernel_rfl) (fun _ _ _ h => h) (by rfl) (fun K hK => ?_); go_simp; refine hK _ _ ?_; clear hK K
        refine any_skip 20 rfl (by kernel_rfl) (by kernel_rfl) (by kernel_rfl) (fun _ _ _ h => h) (by rfl) (fun K hK => ?_); go_simp; refine hK _ _ ?_; clear hK K
        refine any_skip 21 rfl (by kernel_rfl) (by kernel_rfl) (by kernel_rfl) (fun _ _ _ h => h) (by rfl) (fun K hK => ?_); go_simp; refine hK _ _ ?_; clear hK K
        refine any_skip 22 rfl (by kernel_rfl) (by kernel_rfl) (by kernel_rfl) (fun _ _ _ h => h) (by rfl) (fun K hK => ?_); go_simp; refine hK _ _ ?_; clear hK K
        refine any_skip 23 rfl (by kernel_rfl) (by kernel_rfl) (by kernel_rfl) (fun _ _ _ h => h) (by rfl) (fun K hK => ?_); go_simp; refine hK _ _ ?_; clear hK K
        refine any_skip 24 rfl (by kernel_rfl) (by kernel_rfl) (by kernel_rfl) (fun _ _ _ h => h) (by rfl) (fun K hK => ?_); go_simp; refine hK _ _ ?_; clear hK K
        refine any_one 25 (by kernel_rfl) rfl (by rfl) (fun K hK => ?_); go_simp; refine hK _ _ ?_; clear hK K
        refine wpAny_done (by kernel_rfl) ?_ _
        -- A end
        go_wp2_with fail
        go_ret
        exact ⟨rfl, hb1.trans (((Below.drew hbeA).trans (hb5.mono hbeA.size)).mono hb1.size)⟩
      | true =>
        rw [hT] at kT
        by_cases hv : x.2 = []
        · have HPR : PR = false := by rw [HS.out, hT, hv]; rfl
          subst HPR
          have hv0 : ((x.2.length : Int) == 0) = true := by rw [hv]; rfl
          clear hT hv
          -- B
          refine wp_region_any (by kernel_rfl) ?_
          change wpAny _ _ _ _ _ _ _ (World.drew _)
          refine any_one 0 (by kernel_rfl) rfl (by rfl) (fun K hK => ?_); go_simp; refine hK _ _ ?_; clear hK K
          refine any_one 1 (by kernel_rfl) rfl (by rfl) (fun K hK => ?_); go_simp; refine hK _ _ ?_; clear hK K
          refine any_one 2 (by kernel_rfl) rfl (by rfl) (fun K hK => ?_); go_simp; go_wp2_with (go_at_call 45; refine Calls.mono (show Calls _ _ _ _ _ from kT) ?_; rintro e w5 ⟨rfl, hb5⟩)
          refine any_one 3 (by kernel_rfl) rfl (by rfl) (fun K hK => ?_); go_simp; refine hK _ _ ?_; clear hK K
          refine any_one 4 (by kernel_rfl) rfl (by rfl) (fun K hK => ?_); go_simp; refine hK _ _ ?_; clear hK K
          have s1 : w5.cell? ⟨GA, 1, none⟩ = some (.slice au x.2.length cu) := (hb5.cell (p := ⟨GA, 1, none⟩) hsA).trans a1
          refine any_one 5 (by kernel_rfl) rfl (by rfl) (fun K hK => ?_); go_simp; refine hK _ _ ?_; clear hK K
          refine any_one 6 (by kernel_rfl) rfl (by rfl) (fun K hK => ?_); go_simp; refine hK _ _ ?_; clear hK K
          refine any_one 7 (by kernel_rfl) rfl (by rfl) (fun K hK => ?_); go_simp; refine hK _ _ ?_; clear hK K
          refine any_one 8 (by kernel_rfl) rfl (by rfl) (fun K hK => ?_); go_simp; refine hK _ _ ?_; clear hK K
          refine any_one 9 (by kernel_rfl) rfl (by rfl) (fun K hK => ?_); go_simp; refine hK _ _ ?_; clear hK K
          refine any_one 10 (by kernel_rfl) rfl (by rfl) (fun K hK => ?_); go_simp; refine hK _ _ ?_; clear hK K
          refine any_skip 11 rfl (by kernel_rfl) (by kernel_rfl) (by kernel_rfl) (fun _ _ _ h => h) (by rfl) (fun K hK => ?_); go_simp; refine hK _ _ ?_; clear hK K
          refine any_skip 12 rfl (by kernel_rfl) (by kernel_rfl) (by kernel_rfl) (fun _ _ _ h => h) (by rfl) (fun K hK => ?_); go_simp; refine hK _ _ ?_; clear hK K
          refine any_skip 13 rfl (by kernel_rfl) (by kernel_rfl) (by kernel_rfl) (fun _ _ _ h => h) (by rfl) (fun K hK => ?_); go_simp; refine hK _ _ ?_; clear hK K
          refine any_skip 14 rfl (by kernel_rfl) (by kernel_rfl) (by kernel_rfl) (fun _ _ _ h => h) (by rfl) (fun K hK => ?_); go_simp; refine hK _ _ ?_; clear hK K
          refine any_skip 15 rfl (by kernel_rfl) (by kernel_rfl) (by kernel_rfl) (fun _ _ _ h => h) (by rfl) (fun K hK => ?_); go_simp; refine hK _ _ ?_; clear hK K
          refine any_skip 16 rfl (by kernel_rfl) (by kernel_rfl) (by kernel_rfl) (fun _ _ _ h => h) (by rfl) (fun K hK => ?_); go_simp; refine hK _ _ ?_; clear hK K
          refine any_skip 17 rfl (by kernel_rfl) (by kernel_rfl) (by kernel_rfl) (fun _ _ _ h => h) (by rfl) (fun K hK => ?_); go_simp; refine hK _ _ ?_; clear hK K
          refine any_skip 18 rfl (by kernel_rfl) (by kernel_rfl) (by kernel_rfl) (fun _ _ _ h => h) (by rfl) (fun K hK => ?_); go_simp; refine hK _ _ ?_; clear hK K
          refine any_skip 19 rfl (by kernel_rfl) (by kernel_rfl) (by kernel_rfl) (fun _ _ _ h => h) (by rfl) (fun K hK => ?_); go_simp; refine hK _ _ ?_; clear hK K
          refine any_skip 20 rfl (by kernel_rfl) (by kernel_rfl) (by kernel_rfl) (fun _ _ _ h => h) (by rfl) (fun K hK => ?_); go_simp; refine hK _ _ ?_; clear hK K
          refine any_skip 21 rfl (by kernel_rfl) (by kernel_rfl) (by kernel_rfl) (fun _ _ _ h => h) (by rfl) (fun K hK => ?_); go_simp; refine hK _ _ ?_; clear hK K
          refine any_skip 22 rfl (by kernel_rfl) (by kernel_rfl) (by kernel_rfl) (fun _ _ _ h => h) (by rfl) (fun K hK => ?_); go_simp; refine hK _ _ ?_; clear hK K
          refine any_skip 23 rfl (by kernel_rfl) (by kernel_rfl) (by kernel_rfl) (fun _ _ _ h => h) (by rfl) (fun K hK => ?_); go_simp; refine hK _ _ ?_; clear hK K
          refine any_skip 24 rfl (by kernel_rfl) (by kernel_rfl) (by kernel_rfl) (fun _ _ _ h => h) (by rfl) (fun K hK => ?_); go_simp; refine hK _ _ ?_; clear hK K
          refine any_one 25 (by kernel_rfl) rfl (by rfl) (fun K hK => ?_); go_simp; refine hK _ _ ?_; clear hK K
          refine wpAny_done (by kernel_rfl) ?_ _
          -- B end
          go_wp2_with fail
          go_ret
          exact ⟨rfl, hb1.trans (((Below.drew hbeA).trans (hb5.mono hbeA.size)).mono hb1.size)⟩
        · have hv0 : ((x.2.length : Int) == 0) = false := by
            rw [beq_eq_false_iff_ne]
            have := List.length_pos_iff.2 hv
            omega
          by_cases hk0 : k = 0
          · subst hk0
            have HPR : PR = attrsOk (prevT al (0 + 1)) (al.drop (0 + 1)) := by
              rw [HS.out, hT]
              have : x.2.isEmpty = false := by simpa using hv
              simp [this, prevT]
            have HPR := Lib.hid HPR
            clear hT hv
            -- C
            refine wp_region_any (by kernel_rfl) ?_
            change wpAny _ _ _ _ _ _ _ (World.drew _)
            refine any_one 0 (by kernel_rfl) rfl (by rfl) (fun K hK => ?_); go_simp; refine hK _ _ ?_; clear hK K
            refine any_one 1 (by kernel_rfl) rfl (by rfl) (fun K hK => ?_); go_simp; refine hK _ _ ?_; clear hK K
            refine any_one 2 (by kernel_rfl) rfl (by rfl) (fun K hK => ?_); go_simp; go_wp2_with (go_at_call 45; refine Calls.mono (show Calls _ _ _ _ _ from kT) ?_; rintro e w5 ⟨rfl, hb5⟩)
            refine any_one 3 (by kernel_rfl) rfl (by rfl) (fun K hK => ?_); go_simp; refine hK _ _ ?_; clear hK K
            refine any_one 4 (by kernel_rfl) rfl (by rfl) (fun K hK => ?_); go_simp; refine hK _ _ ?_; clear hK K
            have s1 : w5.cell? ⟨GA, 1, none⟩ = some (.slice au x.2.length cu) := (hb5.cell (p := ⟨GA, 1, none⟩) hsA).trans a1
            refine any_one 5 (by kernel_rfl) rfl (by rfl) (fun K hK => ?_); go_simp; refine hK _ _ ?_; clear hK K
            refine any_one 6 (by kernel_rfl) rfl (by rfl) (fun K hK => ?_); go_simp; refine hK _ _ ?_; clear hK K
            refine any_one 7 (by kernel_rfl) rfl (by rfl) (fun K hK => ?_); go_simp; refine hK _ _ ?_; clear hK K
            refine any_one 8 (by kernel_rfl) rfl (by rfl) (fun K hK => ?_); go_simp; refine hK _ _ ?_; clear hK K
            refine any_one 9 (by kernel_rfl) rfl (by rfl) (fun K hK => ?_); go_simp; refine hK _ _ ?_; clear hK K
            refine any_one 10 (by kernel_rfl) rfl (by rfl) (fun K hK => ?_); go_simp; refine hK _ _ ?_; clear hK K
            refine any_one 11 (by kernel_rfl) rfl (by rfl) (fun K hK => ?_); go_simp; refine hK _ _ ?_; clear hK K
            refine any_one 12 (by kernel_rfl) rfl (by rfl) (fun K hK => ?_); go_simp; refine hK _ _ ?_; clear hK K
            refine any_one 13 (by kernel_rfl) rfl (by rfl) (fun K hK => ?_); go_simp; refine hK _ _ ?_; clear hK K
            refine any_skip 14 rfl (by kernel_rfl) (by kernel_rfl) (by kernel_rfl) (fun _ _ _ h => h) (by rfl) (fun K hK => ?_); go_simp; refine hK _ _ ?_; clear hK K
            refine any_skip 15 rfl (by kernel_rfl) (by kernel_rfl) (by kernel_rfl) (fun _ _ _ h => h) (by rfl) (fun K hK => ?_); go_simp; refine hK _ _ ?_; clear hK K
            refine any_skip 16 rfl (by kernel_rfl) (by kernel_rfl) (by kernel_rfl) (fun _ _ _ h => h) (by rfl) (fun K hK => ?_); go_simp; refine hK _ _ ?_; clear hK K
            refine any_skip 17 rfl (by kernel_rfl) (by kernel_rfl) (by kernel_rfl) (fun _ _ _ h => h) (by rfl) (fun K hK => ?_); go_simp; refine hK _ _ ?_; clear hK K
            refine any_skip 18 rfl (by kernel_rfl) (by kernel_rfl) (by kernel_rfl) (fun _ _ _ h => h) (by rfl) (fun K hK => ?_); go_simp; refine hK _ _ ?_; clear hK K
            refine any_skip 19 rfl (by kernel_rfl) (by kernel_rfl) (by kernel_rfl) (fun _ _ _ h => h) (by rfl) (fun K hK => ?_); go_simp; refine hK _ _ ?_; clear hK K
            refine any_skip 20 rfl (by kernel_rfl) (by kernel_rfl) (by kernel_rfl) (fun _ _ _ h => h) (by rfl) (fun K hK => ?_); go_simp; refine hK _ _ ?_; clear hK K
            refine any_skip 21 rfl (by kernel_rfl) (by kernel_rfl) (by kernel_rfl) (fun _ _ _ h => h) (by rfl) (fun K hK => ?_); go_simp; refine hK _ _ ?_; clear hK K
            refine any_skip 22 rfl (by kernel_rfl) (by kernel_rfl) (by kernel_rfl) (fun _ _ _ h => h) (by rfl) (fun K hK => ?_); go_simp; refine hK _ _ ?_; clear hK K
            refine any_skip 23 rfl (by kernel_rfl) (by kernel_rfl) (by kernel_rfl) (fun _ _ _ h => h) (by rfl) (fun K hK => ?_); go_simp; refine hK _ _ ?_; clear hK K
            refine any_one 24 (by kernel_rfl) rfl (by rfl) (fun K hK => ?_); go_simp; refine hK _ _ ?_; clear hK K
            refine any_one 25 (by kernel_rfl) rfl (by rfl) (fun K hK => ?_); go_simp; refine hK _ _ ?_; clear hK K
            refine wpAny_done (by kernel_rfl) ?_ _
            -- C end
            go_wp2_with fail
            go_roundw
            case rel => exact ⟨1, by go_num, by omega, by rw [HP.out, HPR.out], (Below.drew hbeA).trans (hb5.mono hbeA.size)⟩
            case measure => simp [RowKit.intOf]; omega
          · obtain ⟨j, rfl⟩ : ∃ j, k = j + 1 := ⟨k - 1, by omega⟩
            obtain ⟨y, hy⟩ : ∃ y, al[j] = y := ⟨_, rfl⟩
            have hyk : al[j]? = some y := by rw [List.getElem?_eq_getElem (by omega), hy]
            obtain ⟨q1', _, _, _⟩ := hcc j y hyk
            have q1 : wA.cell? ⟨g, o + j * 2, none⟩ = some (.string ⟨y.1.toArray⟩) := (hbwA.cell (lt_of_cell q1')).trans q1'
            have hq1 := lt_of_cell q1
            have hqA : g < wA.heap.size := hq1
            have hpr : prevT al (j + 1) = some y.1 := by simp [prevT, hyk]
            have hve : x.2.isEmpty = false := by simpa using hv
            have hjl : j + 1 < al.length := hkl
            have i1 : (0 : Int) ≤ (j : Int) := by omega
            have i2 : (j : Int) < (al.length : Int) := by omega
            have i3 : (j : Int) + 1 - 1 = (j : Int) := by omega
            have i4 : IntKind.i64.wrap ((j : Int) + 1 - 1) = (j : Int) := by rw [i3]; exact wraps_i64 _ (by omega) (by omega)
            have i5 : decide ((0 : Int) < (j : Int) + 1) = true := decide_eq_true (by omega)
            have i6 : IntKind.i64.wrap (j : Int) = (j : Int) := wraps_i64 _ (by omega) (by omega)
            have I4 := Lib.hid i4
            have I6 := Lib.hid i6
            clear hy hyk q1' hcc hk0 i3 i4 i6
            by_cases he : y.1 = x.1
            · have HPR : PR = false := by rw [HS.out, hT, hpr, he]; simp
              subst HPR
              rw [he] at q1
              clear hT hv he hpr hve
              have i4 := I4.out
              have i6 := I6.out
              go_region_held3 (fun w' => w'.cell? ⟨GA, 0, none⟩ = some (.string ⟨x.1.toArray⟩) ∧ w'.cell? ⟨GA, 1, none⟩ = some (.slice au x.2.length cu) ∧ w'.cell? ⟨G, 4, none⟩ = some (.slice (some ⟨g, o, none⟩) al.length cA) ∧ w'.cell? ⟨g, o + j * 2, none⟩ = some (.string ⟨x.1.toArray⟩))
                (first | go_keep | exact ⟨s0, s1, s2, s3⟩)
                (first | (go_at_call 45; refine Calls.mono (show Calls _ _ _ _ _ from kT) ?_; rintro e w5 ⟨rfl, hb5⟩; have s0 : w5.cell? ⟨GA, 0, none⟩ = some (.string ⟨x.1.toArray⟩) := (hb5.cell (p := ⟨GA, 0, none⟩) hsA).trans a0; have s1 : w5.cell? ⟨GA, 1, none⟩ = some (.slice au x.2.length cu) := (hb5.cell (p := ⟨GA, 1, none⟩) hsA).trans a1; have s2 : w5.cell? ⟨G, 4, none⟩ = some (.slice (some ⟨g, o, none⟩) al.length cA) := (hb5.cell (p := ⟨G, 4, none⟩) (lt_of_cell e4)).trans e4; have s3 : w5.cell? ⟨g, o + j * 2, none⟩ = some (.string ⟨x.1.toArray⟩) := (hb5.cell (p := ⟨g, o + j * 2, none⟩) hqA).trans q1))
              go_wp2_with fail
              go_ret
              exact ⟨rfl, hb1.trans (((Below.drew hbeA).trans (hb5.mono hbeA.size)).mono hb1.size)⟩
            · have HPR : PR = attrsOk (prevT al (j + 1 + 1)) (al.drop (j + 1 + 1)) := by
                rw [HS.out, hT, hpr]
                have : (some y.1 == some x.1) = false := by simpa using he
                simp [hve, this]
              have hne1 : (y.1 == x.1) = false := by simpa using he
              have HPR := Lib.hid HPR
              clear hT hv hpr hve
              have i4 := I4.out
              have i6 := I6.out
              go_region_held3 (fun w' => w'.cell? ⟨GA, 0, none⟩ = some (.string ⟨x.1.toArray⟩) ∧ w'.cell? ⟨GA, 1, none⟩ = some (.slice au x.2.length cu) ∧ w'.cell? ⟨G, 4, none⟩ = some (.slice (some ⟨g, o, none⟩) al.length cA) ∧ w'.cell? ⟨g, o + j * 2, none⟩ = some (.string ⟨y.1.toArray⟩))
                (first | go_keep | exact ⟨s0, s1, s2, s3⟩)
                (first | (go_at_call 45; refine Calls.mono (show Calls _ _ _ _ _ from kT) ?_; rintro e w5 ⟨rfl, hb5⟩; have s0 : w5.cell? ⟨GA, 0, none⟩ = some (.string ⟨x.1.toArray⟩) := (hb5.cell (p := ⟨GA, 0, none⟩) hsA).trans a0; have s1 : w5.cell? ⟨GA, 1, none⟩ = some (.slice au x.2.length cu) := (hb5.cell (p := ⟨GA, 1, none⟩) hsA).trans a1; have s2 : w5.cell? ⟨G, 4, none⟩ = some (.slice (some ⟨g, o, none⟩) al.length cA) := (hb5.cell (p := ⟨G, 4, none⟩) (lt_of_cell e4)).trans e4; have s3 : w5.cell? ⟨g, o + j * 2, none⟩ = some (.string ⟨y.1.toArray⟩) := (hb5.cell (p := ⟨g, o + j * 2, none⟩) hqA).trans q1))
              go_wp2_with fail
              go_roundw
              case rel => exact ⟨j + 1 + 1, by go_num, by omega, by rw [HP.out, HPR.out], (Below.drew hbeA).trans (hb5.mono hbeA.size)⟩
              case measure => simp [RowKit.intOf]; omega
    · obtain rfl : k = al.length := by omega
      have HPR : PR = true := by rw [← HP.out, hok, List.drop_length]; rfl
      subst HPR
      have gk : decide ((al.length : Int) < (al.length : Int)) = false := decide_eq_false (by omega)
      have d4' : wr.cell? ⟨G, 5, none⟩ = some (.slice aM 0 cM) := (hbe.cell (p := ⟨G, 5, none⟩) hs1).trans d5
      clear hok
      go_wp2_with fail
      go_loop [99] (fun i => i = .int .i64 0) (fun _ => 0)
      case atStart => rfl
      case round =>
        subst hrel
        go_wp2_with fail
        go_ret
        exact ⟨rfl, hb1.trans (hbe.mono hb1.size)⟩
end Go.Proofs.YtehpdodjncabkaaDoor
