/- LdI, LdJ, LdR. -/
import Derived.Deep.CutBlock
import Derived.Deep.DeepCutAuto
import Derived.Deep.CutRange
import Derived.Deep.RegionHeld3
import Derived.Test.YtegigcneimjimaaGreatDoorU3
namespace Go.Proofs.YtegigcneimjimaaGreatDoor
open Go.RowKit Go.Lib
set_option maxRecDepth 100000
set_option maxHeartbeats 16000000
def prevT (al : List At) (k : Nat) : Option (List UInt8) := if k = 0 then none else (al[k - 1]?).map Prod.fst
theorem attrsOk_step (al : List At) (k : Nat) (x : At) (h : al[k]? = some x) :
    attrsOk (prevT al k) (al.drop k) = (isTyB x.1 && !x.2.isEmpty && !(prevT al k == some x.1) && attrsOk (prevT al (k + 1)) (al.drop (k + 1))) := by
  have h1 : k < al.length := (List.getElem?_eq_some_iff.1 h).1
  have h2 : al[k] = x := (List.getElem?_eq_some_iff.1 h).2
  rw [List.drop_eq_getElem_cons h1, h2, show prevT al (k + 1) = some x.1 from by simp [prevT, h]]
  rfl
def RR (B : Nat) (al : List At) (w : World) (i : Value) (wr : World) : Prop :=
  ∃ k : Nat, i = .int .i64 (k : Int) ∧ k ≤ al.length ∧ attrsOk none al = attrsOk (prevT al k) (al.drop k) ∧ Below B w wr
theorem right_add (sT sW sD : List UInt8) (aA aM : _) (cA cM : Nat) (al : List At) (w : World) (hA : AttrsAt w (.slice aA al.length cA) al) (hE : Env w) (hal : al.length ≤ 1099511627776) (hty : ∀ x ∈ al, x.1.length ≤ 1099511627776 ∧ x.2.length ≤ 1099511627776) :
    Calls Tryz.prog 131 #[.agg #[.string ⟨sT.toArray⟩, .string ⟨sW.toArray⟩, .string ⟨sD.toArray⟩, .int .i64 0, .slice aA al.length cA, .slice aM 0 cM, .string ⟨#[]⟩, .string ⟨#[]⟩, .bool false, .bool false]] w fun e w' => e = .returned (.bool (attrsOk none al)) ∧ Below w.heap.size w w' := by
  have HA := Lib.hid hA
  have HT := Lib.hid hty
  clear hA hty
  obtain ⟨PR, hPR⟩ : ∃ b, attrsOk none al = b := ⟨_, rfl⟩
  rw [hPR]
  have HP := Lib.hid hPR
  clear hPR
  obtain ⟨C, hC⟩ : ∃ C : Array Value, #[.string ⟨sT.toArray⟩, .string ⟨sW.toArray⟩, .string ⟨sD.toArray⟩, .int .i64 0, .slice aA al.length cA, .slice aM 0 cM, .string ⟨#[]⟩, .string ⟨#[]⟩, .bool false, .bool false] = C := ⟨_, rfl⟩
  have hb1 : Below w.heap.size w (w.alloc (.cells C 47)) := (Below.refl _ _).alloc (Nat.le_refl _) _
  have hs1 : w.heap.size < (w.alloc (.cells C 47)).heap.size := by simp
  have hk1 : (w.alloc (.cells C 47)).heap[w.heap.size]? = some (.cells C 47 (0, 0)) := alloc_at _ _ _ rfl
  have d4 : (w.alloc (.cells C 47)).cell? ⟨w.heap.size, 4, none⟩ = some (.slice aA al.length cA) := by rw [Lib.cell_of_heap hk1, ← hC]; rfl
  have d5 : (w.alloc (.cells C 47)).cell? ⟨w.heap.size, 5, none⟩ = some (.slice aM 0 cM) := by rw [Lib.cell_of_heap hk1, ← hC]; rfl
  rw [← hC] at hb1 hs1 d4 d5
  clear hk1 hC
  go_enter Tryz.func131, Tryz.ntmps131
  go_wp2_with fail
  generalize w.alloc (.cells #[.string ⟨sT.toArray⟩, .string ⟨sW.toArray⟩, .string ⟨sD.toArray⟩, .int .i64 0, .slice aA al.length cA, .slice aM 0 cM, .string ⟨#[]⟩, .string ⟨#[]⟩, .bool false, .bool false] 47) = w1 at hb1 hs1 d4 d5 ⊢
  generalize w.heap.size = G at hs1 d4 d5 ⊢
  go_loopw [64] (fun i wr => RR w1.heap.size al w1 i wr) (fun i _ => al.length - (RowKit.intOf i).toNat)
  case atStart => exact ⟨0, rfl, by omega, by simp [prevT], Below.refl _ _⟩
  case round =>
    obtain ⟨k, rfl, hk, hok, hbe⟩ := hrel
    by_cases hkl : k < al.length
    · obtain ⟨x, hx⟩ : ∃ x, al[k] = x := ⟨_, rfl⟩
      have hxk : al[k]? = some x := by rw [List.getElem?_eq_getElem hkl, hx]
      have hst := attrsOk_step al k x hxk
      rw [← hok, HP.out] at hst
      have HS := Lib.hid hst
      have HO := Lib.hid hok
      clear hst hok
      have hne : al ≠ [] := by intro e; rw [e] at hkl; simp at hkl
      have hmem : x ∈ al := List.mem_of_getElem? hxk
      obtain ⟨hx1, hx2⟩ := HT.out x hmem
      obtain ⟨a2, c2, e2, _, hcell⟩ := HA.out
      obtain ⟨g, o, hag, hcc⟩ := hcell hne
      cases e2
      subst hag
      obtain ⟨p1', u, p2', hu⟩ := hcc k x hxk
      have hbw : Below w.heap.size w wr := below_ext hb1 hbe
      have p1 := (hbw.cell (lt_of_cell p1')).trans p1'
      have p2 := (hbw.cell (lt_of_cell p2')).trans p2'
      have hEr := hE.below hbw
      obtain ⟨au, cu, hue, _, _⟩ := hu
      subst hue
      have gk : decide ((k : Int) < (al.length : Int)) = true := decide_eq_true (by omega)
      have gk2 : (k : Int) < (al.length : Int) := by omega
      have hbA : Below wr.heap.size wr (wr.alloc (.cells #[.string ⟨x.1.toArray⟩, .slice au x.2.length cu] 179)) := (Below.refl _ _).alloc (Nat.le_refl _) _
      have hkA : (wr.alloc (.cells #[.string ⟨x.1.toArray⟩, .slice au x.2.length cu] 179)).heap[wr.heap.size]? = some (.cells #[.string ⟨x.1.toArray⟩, .slice au x.2.length cu] 179 (0, 0)) := alloc_at _ _ _ rfl
      have hsA : wr.heap.size < (wr.alloc (.cells #[.string ⟨x.1.toArray⟩, .slice au x.2.length cu] 179)).heap.size := by simp
      have hEA := hEr.below hbA
      have hbwA := below_ext hbw hbA
      have dA : wr.cell? ⟨G, 4, none⟩ = some (.slice (some ⟨g, o, none⟩) al.length cA) := (hbe.cell (p := ⟨G, 4, none⟩) hs1).trans d4
      have dA2 : wr.cell? ⟨G, 5, none⟩ = some (.slice aM 0 cM) := (hbe.cell (p := ⟨G, 5, none⟩) hs1).trans d5
      have hbeA := hbe.trans (hbA.mono hbe.size)
      clear hx hxk hmem hcell p1' p2'
      go_upto_region 10 with fail
      generalize wr.alloc (.cells #[.string ⟨x.1.toArray⟩, .slice au x.2.length cu] 179) = wA at hbA hkA hsA hEA hbwA hbeA ⊢
      have e4 : wA.cell? ⟨G, 4, none⟩ = some (.slice (some ⟨g, o, none⟩) al.length cA) := (hbA.cell (p := ⟨G, 4, none⟩) (lt_of_cell dA)).trans dA
      have a0 : wA.cell? ⟨wr.heap.size, 0, none⟩ = some (.string ⟨x.1.toArray⟩) := by rw [Lib.cell_of_heap hkA]; rfl
      have a1 : wA.cell? ⟨wr.heap.size, 1, none⟩ = some (.slice au x.2.length cu) := by rw [Lib.cell_of_heap hkA]; rfl
      clear p1 p2 dA dA2 hkA
      generalize wr.heap.size = GA at a0 a1 hsA hbA ⊢
      have kT := IsType_any x.1 wA.drew hx1 (hEA.below (Below.drew (Below.refl _ _)))
      cases hT : isTyB x.1 with
      | false =>
        rw [hT] at kT
        have HPR : PR = false := by rw [HS.out, hT]; rfl
        subst HPR
        clear hT
        -- A
        refine wp_region_any (by kernel_rfl) ?_
        change wpAny _ _ _ _ _ _ _ (World.drew _)
        refine any_one 0 (by kernel_rfl) rfl (by rfl) (fun K hK => ?_); go_simp; refine hK _ _ ?_; clear hK K
        refine any_one 1 (by kernel_rfl) rfl (by rfl) (fun K hK => ?_); go_simp; refine hK _ _ ?_; clear hK K
        refine any_one 2 (by kernel_rfl) rfl (by rfl) (fun K hK => ?_); go_simp; go_wp2_with (go_at_call 114; refine Calls.mono (show Calls _ _ _ _ _ from kT) ?_; rintro e w5 ⟨rfl, hb5⟩)
        refine any_one 3 (by kernel_rfl) rfl (by rfl) (fun K hK => ?_); go_simp; refine hK _ _ ?_; clear hK K
        refine any_one 4 (by kernel_rfl) rfl (by rfl) (fun K hK => ?_); go_simp; refine hK _ _ ?_; clear hK K
        refine any_skip 5 rfl (by kernel_rfl) (by kernel_rfl) (by kernel_rfl) (fun _ _ _ h => h) (by rfl) (fun K hK => ?_); go_simp; refine hK _ _ ?_; clear hK K
        refine any_skip 6 rfl (by kernel_rfl) (by kernel_rfl) (by kernel_rfl) (fun _ _ _ h => h) (by rfl) (fun K hK => ?_); go_simp; refine hK _ _ ?_; clear hK K
        refine any_skip 7 rfl (by kernel_rfl) (by kernel_rfl) (by kernel_rfl) (fun _ _ _ h => h) (by rfl) (fun K hK => ?_); go_simp; refine hK _ _ ?_; clear hK K
        refine any_skip 8 rfl (by kernel_rfl) (by kernel_rfl) (by kernel_rfl) (fun _ _ _ h => h) (by rfl) (fun K hK => ?_); go_simp; refine hK _ _ ?_; clear hK K
        refine any_one 9 (by kernel_rfl) rfl (by rfl) (fun K hK => ?_); go_simp; refine hK _ _ ?_; clear hK K
        refine any_one 10 (by kernel_rfl) rfl (by rfl) (fun K hK => ?_); go_simp; refine hK _ _ ?_; clear hK K
        refine any_skip 11 rfl (by kernel_rfl) (by kernel_rfl) (by kernel_rfl) (fun _ _ _ h => h) (by rfl) (fun K hK => ?_); go_simp; refine hK _ _ ?_; clear hK K
        refine any_skip 12 rfl (by kernel_rfl) (by kernel_rfl) (by kernel_rfl) (fun _ _ _ h => h) (by rfl) (fun K hK => ?_); go_simp; refine hK _ _ ?_; clear hK K
        refine any_skip 13 rfl (by kernel_rfl) (by kernel_rfl) (by kernel_rfl) (fun _ _ _ h => h) (by rfl) (fun K hK => ?_); go_simp; refine hK _ _ ?_; clear hK K
        refine any_skip 14 rfl (by kernel_rfl) (by kernel_rfl) (by kernel_rfl) (fun _ _ _ h => h) (by rfl) (fun K hK => ?_); go_simp; refine hK _ _ ?_; clear hK K
        refine any_skip 15 rfl (by kernel_rfl) (by kernel_rfl) (by kernel_rfl) (fun _ _ _ h => h) (by rfl) (fun K hK => ?_); go_simp; refine hK _ _ ?_; clear hK K
        refine any_skip 16 rfl (by kernel_rfl) (by kernel_rfl) (by kernel_rfl) (fun _ _ _ h => h) (by rfl) (fun K hK => ?_); go_simp; refine hK _ _ ?_; clear hK K
        refine any_skip 17 rfl (by kernel_rfl) (by kernel_rfl) (by kernel_rfl) (fun _ _ _ h => h) (by rfl) (fun K hK => ?_); go_simp; refine hK _ _ ?_; clear hK K
        refine any_skip 18 rfl (by kernel_rfl) (by kernel_rfl) (by kernel_rfl) (fun _ _ _ h => h) (by rfl) (fun K hK => ?_); go_simp; refine hK _ _ ?_; clear hK K
        refine any_skip 19 rfl (by kernel_rfl) (by kernel_rfl) (by kernel_rfl) (fun _ _ _ h => h) (by rfl) (fun K hK => ?_); go_simp; refine hK _ _ ?_; clear hK K
        refine any_skip 20 rfl (by kernel_rfl) (by kernel_rfl) (by kernel_rfl) (fun _ _ _ h => h) (by rfl) (fun K hK => ?_); go_simp; refine hK _ _ ?_; clear hK K
        refine any_skip 21 rfl (by kernel_rfl) (by kernel_rfl) (by kernel_rfl) (fun _ _ _ h => h) (by rfl) (fun K hK => ?_); go_simp; refine hK _ _ ?_; clear hK K
        refine any_skip 22 rfl (by kernel_rfl) (by kernel_rfl) (by kernel_rfl) (fun _ _ _ h => h) (by rfl) (fun K hK => ?_); go_simp; refine hK _ _ ?_; clear hK K
        refine any_skip 23 rfl (by kernel_rfl) (by kernel_rfl) (by kernel_rfl) (fun _ _ _ h => h) (by rfl) (fun K hK => ?_); go_simp; refine hK _ _ ?_; clear hK K
        refine any_skip 24 rfl (by kernel_rfl) (by kernel_rfl) (by kernel_rfl) (fun _ _ _ h => h) (by rfl) (fun K hK => ?_); go_simp; refine hK _ _ ?_; clear hK K
        refine any_one 25 (by kernel_rfl) rfl (by rfl) (fun K hK => ?_); go_simp; refine hK _ _ ?_; clear hK K
        refine wpAny_done (by kernel_rfl) ?_ _
        -- A end
        go_wp2_with fail
        go_ret
        exact ⟨rfl, hb1.trans (((Below.drew hbeA).trans (hb5.mono hbeA.size)).mono hb1.size)⟩
      | true =>
        rw [hT] at kT
        by_cases hv : x.2 = []
        · have HPR : PR = false := by rw [HS.out, hT, hv]; rfl
          subst HPR
          have hv0 : ((x.2.length : Int) == 0) = true := by rw [hv]; rfl
          clear hT hv
          -- B
          refine wp_region_any (by kernel_rfl) ?_
          change wpAny _ _ _ _ _ _ _ (World.drew _)
          refine any_one 0 (by kernel_rfl) rfl (by rfl) (fun K hK => ?_); go_simp; refine hK _ _ ?_; clear hK K
          refine any_one 1 (by kernel_rfl) rfl (by rfl) (fun K hK => ?_); go_simp; refine hK _ _ ?_; clear hK K
          refine any_one 2 (by kernel_rfl) rfl (by rfl) (fun K hK => ?_); go_simp; go_wp2_with (go_at_call 114; refine Calls.mono (show Calls _ _ _ _ _ from kT) ?_; rintro e w5 ⟨rfl, hb5⟩)
          refine any_one 3 (by kernel_rfl) rfl (by rfl) (fun K hK => ?_); go_simp; refine hK _ _ ?_; clear hK K
          refine any_one 4 (by kernel_rfl) rfl (by rfl) (fun K hK => ?_); go_simp; refine hK _ _ ?_; clear hK K
          have s1 : w5.cell? ⟨GA, 1, none⟩ = some (.slice au x.2.length cu) := (hb5.cell (p := ⟨GA, 1, none⟩) hsA).trans a1
          refine any_one 5 (by kernel_rfl) rfl (by rfl) (fun K hK => ?_); go_simp; refine hK _ _ ?_; clear hK K
          refine any_one 6 (by kernel_rfl) rfl (by rfl) (fun K hK => ?_); go_simp; refine hK _ _ ?_; clear hK K
          refine any_one 7 (by kernel_rfl) rfl (by rfl) (fun K hK => ?_); go_simp; refine hK _ _ ?_; clear hK K
          refine any_one 8 (by kernel_rfl) rfl (by rfl) (fun K hK => ?_); go_simp; refine hK _ _ ?_; clear hK K
          refine any_one 9 (by kernel_rfl) rfl (by rfl) (fun K hK => ?_); go_simp; refine hK _ _ ?_; clear hK K
          refine any_one 10 (by kernel_rfl) rfl (by rfl) (fun K hK => ?_); go_simp; refine hK _ _ ?_; clear hK K
          refine any_skip 11 rfl (by kernel_rfl) (by kernel_rfl) (by kernel_rfl) (fun _ _ _ h => h) (by rfl) (fun K hK => ?_); go_simp; refine hK _ _ ?_; clear hK K
          refine any_skip 12 rfl (by kernel_rfl) (by kernel_rfl) (by kernel_rfl) (fun _ _ _ h => h) (by rfl) (fun K hK => ?_); go_simp; refine hK _ _ ?_; clear hK K
          refine any_skip 13 rfl (by kernel_rfl) (by kernel_rfl) (by kernel_rfl) (fun _ _ _ h => h) (by rfl) (fun K hK => ?_); go_simp; refine hK _ _ ?_; clear hK K
          refine any_skip 14 rfl (by kernel_rfl) (by kernel_rfl) (by kernel_rfl) (fun _ _ _ h => h) (by rfl) (fun K hK => ?_); go_simp; refine hK _ _ ?_; clear hK K
          refine any_skip 15 rfl (by kernel_rfl) (by kernel_rfl) (by kernel_rfl) (fun _ _ _ h => h) (by rfl) (fun K hK => ?_); go_simp; refine hK _ _ ?_; clear hK K
          refine any_skip 16 rfl (by kernel_rfl) (by kernel_rfl) (by kernel_rfl) (fun _ _ _ h => h) (by rfl) (fun K hK => ?_); go_simp; refine hK _ _ ?_; clear hK K
          refine any_skip 17 rfl (by kernel_rfl) (by kernel_rfl) (by kernel_rfl) (fun _ _ _ h => h) (by rfl) (fun K hK => ?_); go_simp; refine hK _ _ ?_; clear hK K
          refine any_skip 18 rfl (by kernel_rfl) (by kernel_rfl) (by kernel_rfl) (fun _ _ _ h => h) (by rfl) (fun K hK => ?_); go_simp; refine hK _ _ ?_; clear hK K
          refine any_skip 19 rfl (by kernel_rfl) (by kernel_rfl) (by kernel_rfl) (fun _ _ _ h => h) (by rfl) (fun K hK => ?_); go_simp; refine hK _ _ ?_; clear hK K
          refine any_skip 20 rfl (by kernel_rfl) (by kernel_rfl) (by kernel_rfl) (fun _ _ _ h => h) (by rfl) (fun K hK => ?_); go_simp; refine hK _ _ ?_; clear hK K
          refine any_skip 21 rfl (by kernel_rfl) (by kernel_rfl) (by kernel_rfl) (fun _ _ _ h => h) (by rfl) (fun K hK => ?_); go_simp; refine hK _ _ ?_; clear hK K
          refine any_skip 22 rfl (by kernel_rfl) (by kernel_rfl) (by kernel_rfl) (fun _ _ _ h => h) (by rfl) (fun K hK => ?_); go_simp; refine hK _ _ ?_; clear hK K
          refine any_skip 23 rfl (by kernel_rfl) (by kernel_rfl) (by kernel_rfl) (fun _ _ _ h => h) (by rfl) (fun K hK => ?_); go_simp; refine hK _ _ ?_; clear hK K
          refine any_skip 24 rfl (by kernel_rfl) (by kernel_rfl) (by kernel_rfl) (fun _ _ _ h => h) (by rfl) (fun K hK => ?_); go_simp; refine hK _ _ ?_; clear hK K
          refine any_one 25 (by kernel_rfl) rfl (by rfl) (fun K hK => ?_); go_simp; refine hK _ _ ?_; clear hK K
          refine wpAny_done (by kernel_rfl) ?_ _
          -- B end
          go_wp2_with fail
          go_ret
          exact ⟨rfl, hb1.trans (((Below.drew hbeA).trans (hb5.mono hbeA.size)).mono hb1.size)⟩
        · have hv0 : ((x.2.length : Int) == 0) = false := by
            rw [beq_eq_false_iff_ne]
            have := List.length_pos_iff.2 hv
            omega
          by_cases hk0 : k = 0
          · subst hk0
            have HPR : PR = attrsOk (prevT al (0 + 1)) (al.drop (0 + 1)) := by
              rw [HS.out, hT]
              have : x.2.isEmpty = false := by simpa using hv
              simp [this, prevT]
            have HPR := Lib.hid HPR
            clear hT hv
            -- C
            refine wp_region_any (by kernel_rfl) ?_
            change wpAny _ _ _ _ _ _ _ (World.drew _)
            refine any_one 0 (by kernel_rfl) rfl (by rfl) (fun K hK => ?_); go_simp; refine hK _ _ ?_; clear hK K
            refine any_one 1 (by kernel_rfl) rfl (by rfl) (fun K hK => ?_); go_simp; refine hK _ _ ?_; clear hK K
            refine any_one 2 (by kernel_rfl) rfl (by rfl) (fun K hK => ?_); go_simp; go_wp2_with (go_at_call 114; refine Calls.mono (show Calls _ _ _ _ _ from kT) ?_; rintro e w5 ⟨rfl, hb5⟩)
            refine any_one 3 (by kernel_rfl) rfl (by rfl) (fun K hK => ?_); go_simp; refine hK _ _ ?_; clear hK K
            refine any_one 4 (by kernel_rfl) rfl (by rfl) (fun K hK => ?_); go_simp; refine hK _ _ ?_; clear hK K
            have s1 : w5.cell? ⟨GA, 1, none⟩ = some (.slice au x.2.length cu) := (hb5.cell (p := ⟨GA, 1, none⟩) hsA).trans a1
            refine any_one 5 (by kernel_rfl) rfl (by rfl) (fun K hK => ?_); go_simp; refine hK _ _ ?_; clear hK K
            refine any_one 6 (by kernel_rfl) rfl (by rfl) (fun K hK => ?_); go_simp; refine hK _ _ ?_; clear hK K
            refine any_one 7 (by kernel_rfl) rfl (by rfl) (fun K hK => ?_); go_simp; refine hK _ _ ?_; clear hK K
            refine any_one 8 (by kernel_rfl) rfl (by rfl) (fun K hK => ?_); go_simp; refine hK _ _ ?_; clear hK K
            refine any_one 9 (by kernel_rfl) rfl (by rfl) (fun K hK => ?_); go_simp; refine hK _ _ ?_; clear hK K
            refine any_one 10 (by kernel_rfl) rfl (by rfl) (fun K hK => ?_); go_simp; refine hK _ _ ?_; clear hK K
            refine any_one 11 (by kernel_rfl) rfl (by rfl) (fun K hK => ?_); go_simp; refine hK _ _ ?_; clear hK K
            refine any_one 12 (by kernel_rfl) rfl (by rfl) (fun K hK => ?_); go_simp; refine hK _ _ ?_; clear hK K
            refine any_one 13 (by kernel_rfl) rfl (by rfl) (fun K hK => ?_); go_simp; refine hK _ _ ?_; clear hK K
            refine any_skip 14 rfl (by kernel_rfl) (by kernel_rfl) (by kernel_rfl) (fun _ _ _ h => h) (by rfl) (fun K hK => ?_); go_simp; refine hK _ _ ?_; clear hK K
            refine any_skip 15 rfl (by kernel_rfl) (by kernel_rfl) (by kernel_rfl) (fun _ _ _ h => h) (by rfl) (fun K hK => ?_); go_simp; refine hK _ _ ?_; clear hK K
            refine any_skip 16 rfl (by kernel_rfl) (by kernel_rfl) (by kernel_rfl) (fun _ _ _ h => h) (by rfl) (fun K hK => ?_); go_simp; refine hK _ _ ?_; clear hK K
            refine any_skip 17 rfl (by kernel_rfl) (by kernel_rfl) (by kernel_rfl) (fun _ _ _ h => h) (by rfl) (fun K hK => ?_); go_simp; refine hK _ _ ?_; clear hK K
            refine any_skip 18 rfl (by kernel_rfl) (by kernel_rfl) (by kernel_rfl) (fun _ _ _ h => h) (by rfl) (fun K hK => ?_); go_simp; refine hK _ _ ?_; clear hK K
            refine any_skip 19 rfl (by kernel_rfl) (by kernel_rfl) (by kernel_rfl) (fun _ _ _ h => h) (by rfl) (fun K hK => ?_); go_simp; refine hK _ _ ?_; clear hK K
            refine any_skip 20 rfl (by kernel_rfl) (by kernel_rfl) (by kernel_rfl) (fun _ _ _ h => h) (by rfl) (fun K hK => ?_); go_simp; refine hK _ _ ?_; clear hK K
            refine any_skip 21 rfl (by kernel_rfl) (by kernel_rfl) (by kernel_rfl) (fun _ _ _ h => h) (by rfl) (fun K hK => ?_); go_simp; refine hK _ _ ?_; clear hK K
            refine any_skip 22 rfl (by kernel_rfl) (by kernel_rfl) (by kernel_rfl) (fun _ _ _ h => h) (by rfl) (fun K hK => ?_); go_simp; refine hK _ _ ?_; clear hK K
            refine any_skip 23 rfl (by kernel_rfl) (by kernel_rfl) (by kernel_rfl) (fun _ _ _ h => h) (by rfl) (fun K hK => ?_); go_simp; refine hK _ _ ?_; clear hK K
            refine any_one 24 (by kernel_rfl) rfl (by rfl) (fun K hK => ?_); go_simp; refine hK _ _ ?_; clear hK K
            refine any_one 25 (by kernel_rfl) rfl (by rfl) (fun K hK => ?_); go_simp; refine hK _ _ ?_; clear hK K
            refine wpAny_done (by kernel_rfl) ?_ _
            -- C end
            go_wp2_with fail
            go_roundw
            case rel => exact ⟨1, by go_num, by omega, by rw [HP.out, HPR.out], (Below.drew hbeA).trans (hb5.mono hbeA.size)⟩
            case measure => simp [RowKit.intOf]; omega
          · obtain ⟨j, rfl⟩ : ∃ j, k = j + 1 := ⟨k - 1, by omega⟩
            obtain ⟨y, hy⟩ : ∃ y, al[j] = y := ⟨_, rfl⟩
            have hyk : al[j]? = some y := by rw [List.getElem?_eq_getElem (by omega), hy]
            obtain ⟨q1', _, _, _⟩ := hcc j y hyk
            have q1 : wA.cell? ⟨g, o + j * 2, none⟩ = some (.string ⟨y.1.toArray⟩) := (hbwA.cell (lt_of_cell q1')).trans q1'
            have hq1 := lt_of_cell q1
            have hqA : g < wA.heap.size := hq1
            have hpr : prevT al (j + 1) = some y.1 := by simp [prevT, hyk]
            have hve : x.2.isEmpty = false := by simpa using hv
            have hjl : j + 1 < al.length := hkl
            have i1 : (0 : Int) ≤ (j : Int) := by omega
            have i2 : (j : Int) < (al.length : Int) := by omega
            have i3 : (j : Int) + 1 - 1 = (j : Int) := by omega
            have i4 : IntKind.i64.wrap ((j : Int) + 1 - 1) = (j : Int) := by rw [i3]; exact wraps_i64 _ (by omega) (by omega)
            have i5 : decide ((0 : Int) < (j : Int) + 1) = true := decide_eq_true (by omega)
            have i6 : IntKind.i64.wrap (j : Int) = (j : Int) := wraps_i64 _ (by omega) (by omega)
            have I4 := Lib.hid i4
            have I6 := Lib.hid i6
            clear hy hyk q1' hcc hk0 i3 i4 i6
            by_cases he : y.1 = x.1
            · have HPR : PR = false := by rw [HS.out, hT, hpr, he]; simp
              subst HPR
              rw [he] at q1
              clear hT hv he hpr hve
              have i4 := I4.out
              have i6 := I6.out
              go_region_held3 (fun w' => w'.cell? ⟨GA, 0, none⟩ = some (.string ⟨x.1.toArray⟩) ∧ w'.cell? ⟨GA, 1, none⟩ = some (.slice au x.2.length cu) ∧ w'.cell? ⟨G, 4, none⟩ = some (.slice (some ⟨g, o, none⟩) al.length cA) ∧ w'.cell? ⟨g, o + j * 2, none⟩ = some (.string ⟨x.1.toArray⟩))
                (first | go_keep | exact ⟨s0, s1, s2, s3⟩)
                (first | (go_at_call 114; refine Calls.mono (show Calls _ _ _ _ _ from kT) ?_; rintro e w5 ⟨rfl, hb5⟩; have s0 : w5.cell? ⟨GA, 0, none⟩ = some (.string ⟨x.1.toArray⟩) := (hb5.cell (p := ⟨GA, 0, none⟩) hsA).trans a0; have s1 : w5.cell? ⟨GA, 1, none⟩ = some (.slice au x.2.length cu) := (hb5.cell (p := ⟨GA, 1, none⟩) hsA).trans a1; have s2 : w5.cell? ⟨G, 4, none⟩ = some (.slice (some ⟨g, o, none⟩) al.length cA) := (hb5.cell (p := ⟨G, 4, none⟩) (lt_of_cell e4)).trans e4; have s3 : w5.cell? ⟨g, o + j * 2, none⟩ = some (.string ⟨x.1.toArray⟩) := (hb5.cell (p := ⟨g, o + j * 2, none⟩) hqA).trans q1))
              go_wp2_with fail
              go_ret
              exact ⟨rfl, hb1.trans (((Below.drew hbeA).trans (hb5.mono hbeA.size)).mono hb1.size)⟩
            · have HPR : PR = attrsOk (prevT al (j + 1 + 1)) (al.drop (j + 1 + 1)) := by
                rw [HS.out, hT, hpr]
                have : (some y.1 == some x.1) = false := by simpa using he
                simp [hve, this]
              have hne1 : (y.1 == x.1) = false := by simpa using he
              have HPR := Lib.hid HPR
              clear hT hv hpr hve
              have i4 := I4.out
              have i6 := I6.out
              go_region_held3 (fun w' => w'.cell? ⟨GA, 0, none⟩ = some (.string ⟨x.1.toArray⟩) ∧ w'.cell? ⟨GA, 1, none⟩ = some (.slice au x.2.length cu) ∧ w'.cell? ⟨G, 4, none⟩ = some (.slice (some ⟨g, o, none⟩) al.length cA) ∧ w'.cell? ⟨g, o + j * 2, none⟩ = some (.string ⟨y.1.toArray⟩))
                (first | go_keep | exact ⟨s0, s1, s2, s3⟩)
                (first | (go_at_call 114; refine Calls.mono (show Calls _ _ _ _ _ from kT) ?_; rintro e w5 ⟨rfl, hb5⟩; have s0 : w5.cell? ⟨GA, 0, none⟩ = some (.string ⟨x.1.toArray⟩) := (hb5.cell (p := ⟨GA, 0, none⟩) hsA).trans a0; have s1 : w5.cell? ⟨GA, 1, none⟩ = some (.slice au x.2.length cu) := (hb5.cell (p := ⟨GA, 1, none⟩) hsA).trans a1; have s2 : w5.cell? ⟨G, 4, none⟩ = some (.slice (some ⟨g, o, none⟩) al.length cA) := (hb5.cell (p := ⟨G, 4, none⟩) (lt_of_cell e4)).trans e4; have s3 : w5.cell? ⟨g, o + j * 2, none⟩ = some (.string ⟨y.1.toArray⟩) := (hb5.cell (p := ⟨g, o + j * 2, none⟩) hqA).trans q1))
              go_wp2_with fail
              go_roundw
              case rel => exact ⟨j + 1 + 1, by go_num, by omega, by rw [HP.out, HPR.out], (Below.drew hbeA).trans (hb5.mono hbeA.size)⟩
              case measure => simp [RowKit.intOf]; omega
    · obtain rfl : k = al.length := by omega
      have HPR : PR = true := by rw [← HP.out, hok, List.drop_length]; rfl
      subst HPR
      have gk : decide ((al.length : Int) < (al.length : Int)) = false := decide_eq_false (by omega)
      have d4' : wr.cell? ⟨G, 5, none⟩ = some (.slice aM 0 cM) := (hbe.cell (p := ⟨G, 5, none⟩) hs1).trans d5
      clear hok
      go_wp2_with fail
      go_loop [99] (fun i => i = .int .i64 0) (fun _ => 0)
      case atStart => rfl
      case round =>
        subst hrel
        go_wp2_with fail
        go_ret
        exact ⟨rfl, hb1.trans (hbe.mono hb1.size)⟩
def okM (m : Md) : Bool := decide (0 ≤ m.1) && decide (m.1 ≤ 2) && isTyB m.2.1
theorem modsOk_okM (ms : List Md) : modsOk ms = ms.all okM := rfl
def RM (B : Nat) (ml : List Md) (w : World) (i : Value) (wr : World) : Prop :=
  ∃ k : Nat, i = .int .i64 (k : Int) ∧ k ≤ ml.length ∧ ml.all okM = (ml.drop k).all okM ∧ Below B w wr
theorem right_mod (sT sW sD : List UInt8) (aA aM : _) (cA cM : Nat) (ml : List Md) (w : World) (hA : ModsAt w (.slice aM ml.length cM) ml) (hE : Env w) (hml : ml.length ≤ 1099511627776) (hty : ∀ x ∈ ml, x.2.1.length ≤ 1099511627776) :
    Calls Tryz.prog 131 #[.agg #[.string ⟨sT.toArray⟩, .string ⟨sW.toArray⟩, .string ⟨sD.toArray⟩, .int .i64 2, .slice aA 0 cA, .slice aM ml.length cM, .string ⟨#[]⟩, .string ⟨#[]⟩, .bool false, .bool false]] w fun e w' => e = .returned (.bool (modsOk ml)) ∧ Below w.heap.size w w' := by
  rw [modsOk_okM]
  have HA := Lib.hid hA
  have HT := Lib.hid hty
  clear hA hty
  obtain ⟨PR, hPR⟩ : ∃ b, ml.all okM = b := ⟨_, rfl⟩
  rw [hPR]
  have HP := Lib.hid hPR
  clear hPR
  obtain ⟨C, hC⟩ : ∃ C : Array Value, #[.string ⟨sT.toArray⟩, .string ⟨sW.toArray⟩, .string ⟨sD.toArray⟩, .int .i64 2, .slice aA 0 cA, .slice aM ml.length cM, .string ⟨#[]⟩, .string ⟨#[]⟩, .bool false, .bool false] = C := ⟨_, rfl⟩
  have hb1 : Below w.heap.size w (w.alloc (.cells C 47)) := (Below.refl _ _).alloc (Nat.le_refl _) _
  have hs1 : w.heap.size < (w.alloc (.cells C 47)).heap.size := by simp
  have hk1 : (w.alloc (.cells C 47)).heap[w.heap.size]? = some (.cells C 47 (0, 0)) := alloc_at _ _ _ rfl
  have d5 : (w.alloc (.cells C 47)).cell? ⟨w.heap.size, 5, none⟩ = some (.slice aM ml.length cM) := by rw [Lib.cell_of_heap hk1, ← hC]; rfl
  rw [← hC] at hb1 hs1 d5
  clear hk1 hC
  go_enter Tryz.func131, Tryz.ntmps131
  go_wp2_with fail
  go_loop [64] (fun i => i = .int .i64 0) (fun _ => 0)
  case atStart => rfl
  case round =>
    subst hrel
    go_wp2_with fail
    generalize w.alloc (.cells #[.string ⟨sT.toArray⟩, .string ⟨sW.toArray⟩, .string ⟨sD.toArray⟩, .int .i64 2, .slice aA 0 cA, .slice aM ml.length cM, .string ⟨#[]⟩, .string ⟨#[]⟩, .bool false, .bool false] 47) = w1 at hb1 hs1 d5 ⊢
    generalize w.heap.size = G at hs1 d5 ⊢
    go_loopw [99] (fun i wr => RM w1.heap.size ml w1 i wr) (fun i _ => ml.length - (RowKit.intOf i).toNat)
    case atStart => exact ⟨0, rfl, by omega, by simp, Below.refl _ _⟩
    case round =>
      obtain ⟨k, rfl, hk, hok, hbe⟩ := hrel
      by_cases hkl : k < ml.length
      · obtain ⟨x, hx⟩ : ∃ x, ml[k] = x := ⟨_, rfl⟩
        have hxk : ml[k]? = some x := by rw [List.getElem?_eq_getElem hkl, hx]
        have hst : (ml.drop k).all okM = (okM x && (ml.drop (k + 1)).all okM) := by rw [List.drop_eq_getElem_cons hkl, hx, List.all_cons]
        rw [← hok, HP.out] at hst
        have HS := Lib.hid hst
        clear hst hok
        have hne : ml ≠ [] := by intro e; rw [e] at hkl; simp at hkl
        have hx1 := HT.out x (List.mem_of_getElem? hxk)
        obtain ⟨a2, c2, e2, _, hcell⟩ := HA.out
        obtain ⟨g, o, hag, hcc⟩ := hcell hne
        cases e2
        subst hag
        obtain ⟨p1', p2', u, p3', hu⟩ := hcc k x hxk
        have hbw : Below w.heap.size w wr := below_ext hb1 hbe
        have p1 := (hbw.cell (lt_of_cell p1')).trans p1'
        have p2 := (hbw.cell (lt_of_cell p2')).trans p2'
        have p3 := (hbw.cell (lt_of_cell p3')).trans p3'
        have hEr := hE.below hbw
        obtain ⟨au, cu, hue, _, _⟩ := hu
        subst hue
        have gk : decide ((k : Int) < (ml.length : Int)) = true := decide_eq_true (by omega)
        have gk2 : (k : Int) < (ml.length : Int) := by omega
        have hbA : Below wr.heap.size wr (wr.alloc (.cells #[.int .i64 x.1, .string ⟨x.2.1.toArray⟩, .slice au x.2.2.length cu] 182)) := (Below.refl _ _).alloc (Nat.le_refl _) _
        have hEA := hEr.below hbA
        have kT := IsType_any x.2.1 _ hx1 hEA
        have hbeA := hbe.trans (hbA.mono hbe.size)
        clear hx hxk hcell p1' p2' p3' hcc
        by_cases ho0 : x.1 < 0
        · have HPR : PR = false := by rw [HS.out]; simp [okM, show ¬ 0 ≤ x.1 by omega]
          subst HPR
          have t1 : decide (x.1 < 0) = true := decide_eq_true ho0
          go_wp2_with fail
          go_ret
          exact ⟨rfl, hb1.trans (hbeA.mono hb1.size)⟩
        · have t1 : decide (x.1 < 0) = false := decide_eq_false ho0
          by_cases ho2 : 2 < x.1
          · have HPR : PR = false := by rw [HS.out]; simp [okM, show ¬ x.1 ≤ 2 by omega]
            subst HPR
            have t2 : decide (2 < x.1) = true := decide_eq_true ho2
            go_wp2_with fail
            go_ret
            exact ⟨rfl, hb1.trans (hbeA.mono hb1.size)⟩
          · have t2 : decide (2 < x.1) = false := decide_eq_false ho2
            cases hT : isTyB x.2.1 with
            | false =>
              rw [hT] at kT
              have HPR : PR = false := by rw [HS.out]; simp [okM, hT]
              subst HPR
              clear hT
              go_wp2_with (go_at_call 114; refine Calls.mono (show Calls _ _ _ _ _ from kT) ?_; rintro e w5 ⟨rfl, hb5⟩)
              go_ret
              exact ⟨rfl, hb1.trans ((hbeA.trans (hb5.mono hbeA.size)).mono hb1.size)⟩
            | true =>
              rw [hT] at kT
              have HPR : PR = (ml.drop (k + 1)).all okM := by rw [HS.out]; simp [okM, hT, show 0 ≤ x.1 by omega, show x.1 ≤ 2 by omega]
              have HPR := Lib.hid HPR
              clear hT
              go_wp2_with (go_at_call 114; refine Calls.mono (show Calls _ _ _ _ _ from kT) ?_; rintro e w5 ⟨rfl, hb5⟩)
              go_roundw
              case rel => exact ⟨k + 1, by go_num, by omega, by rw [HP.out, HPR.out], hbeA.trans (hb5.mono hbeA.size)⟩
              case measure => simp [RowKit.intOf]; omega
      · obtain rfl : k = ml.length := by omega
        have HPR : PR = true := by rw [← HP.out, hok, List.drop_length]; rfl
        subst HPR
        have gk : decide ((ml.length : Int) < (ml.length : Int)) = false := decide_eq_false (by omega)
        clear hok
        go_wp2_with fail
        go_ret
        exact ⟨rfl, hb1.trans (hbe.mono hb1.size)⟩
theorem rest_kind0 (B b : Nat) (l : List UInt8) (w0 w : World) (T Wh D vM f6 f7 f8 f9 : Value) (hW : IsW B b l w) (h0 : Below w0.heap.size w0 w) (hB0 : w0.heap.size ≤ B) (hBw : B ≤ w.heap.size) (vA : Value) (al : List At) (hA : AttrsAt w0 vA al) (hal : al.length ≤ 1099511627776) (hlen : l.length + (attrB al).length ≤ 1099511627776) (hty : ∀ x ∈ al, x.1.length ≤ 1099511627776 ∧ x.2.length ≤ 1099511627776 ∧ ∀ v ∈ x.2, v.length ≤ 1099511627776) :
    Calls Tryz.prog 134 #[.pointer (some ⟨b, 0, none⟩), .agg #[T, Wh, D, .int .i64 0, vA, vM, f6, f7, f8, f9]] w fun e w' => e = .returned (.tuple #[]) ∧ (IsW B b (l ++ attrB al) w' ∧ Below B w w') := by
  have hmm := @run_makeMap Tryz.prog
  have hlb : b < w.heap.size := IsW.lt hW
  obtain ⟨C, hC⟩ : ∃ C, Obj.cells #[T, Wh, D, .int .i64 0, vA, vM, f6, f7, f8, f9] 47 = C := ⟨_, rfl⟩
  obtain ⟨W1, e1, h1, s1, o1, p1⟩ := run_lay_ex (P := Tryz.prog) (((w.alloc (Obj.cells #[.pointer (some ⟨b, 0, none⟩)] 273)).alloc C).alloc (.map #[] 0)) 275 3 _ (w.heap.size + 1 + 1) 0 #[] 0 (.func (.func 219) #[] #[.pointer (some ⟨w.heap.size + 1, 0, none⟩), .pointer (some ⟨w.heap.size, 0, none⟩)]) Tryz.underlying275 Tryz.underlying3 (alloc_at _ _ _ (by simp)) rfl
  obtain ⟨W2, e2, h2, s2, o2, p2⟩ := run_lay_ex (P := Tryz.prog) W1 275 3 _ (w.heap.size + 1 + 1) _ _ 2 (.func (.func 220) #[] #[.pointer (some ⟨w.heap.size + 1, 0, none⟩), .pointer (some ⟨w.heap.size, 0, none⟩)]) Tryz.underlying275 Tryz.underlying3 h1 rfl
  obtain ⟨W3, e3, h3, s3, o3, p3⟩ := run_lay_ex (P := Tryz.prog) W2 275 3 _ (w.heap.size + 1 + 1) _ _ 3 (.func (.func 222) #[] #[.pointer (some ⟨w.heap.size, 0, none⟩), .pointer (some ⟨w.heap.size + 1, 0, none⟩)]) Tryz.underlying275 Tryz.underlying3 h2 rfl
  obtain ⟨W4, e4, h4, s4, o4, p4⟩ := run_lay_ex (P := Tryz.prog) W3 275 3 _ (w.heap.size + 1 + 1) _ _ 1 (.func (.func 223) #[] #[]) Tryz.underlying275 Tryz.underlying3 h3 rfl
  have e5 := run_find (P := Tryz.prog) W4 275 3 _ (w.heap.size + 1 + 1) _ 0 _ 0 (.func (.func 219) #[] #[.pointer (some ⟨w.heap.size + 1, 0, none⟩), .pointer (some ⟨w.heap.size, 0, none⟩)]) Tryz.underlying275 Tryz.underlying3 h4 rfl rfl
  have hblk : W4.heap[w.heap.size + 1]? = some C := by
    rw [o4 _ (by omega), o3 _ (by omega), o2 _ (by omega), o1 _ (by omega), Lib.alloc_old _ _ _ (by simp)]
    exact alloc_at _ _ _ (by simp)
  have hpb : W4.heap[w.heap.size]? = some (.cells #[.pointer (some ⟨b, 0, none⟩)] 273 (0, 0)) := by
    rw [o4 _ (by omega), o3 _ (by omega), o2 _ (by omega), o1 _ (by omega), Lib.alloc_old _ _ _ (by simp; omega), Lib.alloc_old _ _ _ (by simp)]
    exact alloc_at _ _ _ rfl
  have hbe : Below w.heap.size w W4 := by
    have b0 := (((Below.refl w.heap.size w).alloc (Nat.le_refl _) (Obj.cells #[.pointer (some ⟨b, 0, none⟩)] 273)).alloc (by simp) C).alloc (by simp; omega) (.map #[] 0)
    have b1 : Below w.heap.size _ W1 := ⟨p1.1, p1.2.1, p1.2.2, Nat.le_of_eq s1.symm, fun k hk => o1 k (by omega)⟩
    have b2 : Below w.heap.size W1 W2 := ⟨p2.1, p2.2.1, p2.2.2, Nat.le_of_eq s2.symm, fun k hk => o2 k (by omega)⟩
    have b3 : Below w.heap.size W2 W3 := ⟨p3.1, p3.2.1, p3.2.2, Nat.le_of_eq s3.symm, fun k hk => o3 k (by omega)⟩
    have b4 : Below w.heap.size W3 W4 := ⟨p4.1, p4.2.1, p4.2.2, Nat.le_of_eq s4.symm, fun k hk => o4 k (by omega)⟩
    exact (((b0.trans b1).trans b2).trans b3).trans b4
  subst hC
  have hcell : W4.cell? ⟨w.heap.size + 1, 3, none⟩ = some (.int .i64 0) := by rw [Lib.cell_of_heap hblk]; rfl
  have hW4 : IsW B b l W4 := IsW.below hW hbe
  have h04 : Below w0.heap.size w0 W4 := h0.trans (hbe.mono h0.size)
  have hB4 : B ≤ W4.heap.size := Nat.le_trans hBw hbe.size
  clear h1 h2 h3 h4 o1 o2 o3 o4 s1 s2 s3 s4 p1 p2 p3 p4
  have kr := rest1_any B b (w.heap.size + 1) w.heap.size l vA al #[T, Wh, D, .int .i64 0, vA, vM, f6, f7, f8, f9] w0 W4 hW4 hA h04 hB0 hB4 hblk rfl hpb (by omega) (by omega) hal hlen hty
  clear hblk hpb
  go_enter Tryz.func134, Tryz.ntmps134
  go_wp2_with (go_at_call 219; refine Calls.mono (show Calls _ _ _ _ _ from kr) ?_; rintro e w5 ⟨rfl, hW5, hb5, hk5⟩)
  go_end0
  exact ⟨rfl, hW5, (hbe.mono hBw).trans hb5⟩
theorem rest_kind1 (B b : Nat) (l : List UInt8) (w0 w : World) (T Wh D vA vM f6 f7 f8 f9 : Value) (hW : IsW B b l w) (h0 : Below w0.heap.size w0 w) (_hB0 : w0.heap.size ≤ B) (hBw : B ≤ w.heap.size)  :
    Calls Tryz.prog 134 #[.pointer (some ⟨b, 0, none⟩), .agg #[T, Wh, D, .int .i64 1, vA, vM, f6, f7, f8, f9]] w fun e w' => e = .returned (.tuple #[]) ∧ (IsW B b (l ++ []) w' ∧ Below B w w') := by
  have hmm := @run_makeMap Tryz.prog
  have hlb : b < w.heap.size := IsW.lt hW
  obtain ⟨C, hC⟩ : ∃ C, Obj.cells #[T, Wh, D, .int .i64 1, vA, vM, f6, f7, f8, f9] 47 = C := ⟨_, rfl⟩
  obtain ⟨W1, e1, h1, s1, o1, p1⟩ := run_lay_ex (P := Tryz.prog) (((w.alloc (Obj.cells #[.pointer (some ⟨b, 0, none⟩)] 273)).alloc C).alloc (.map #[] 0)) 275 3 _ (w.heap.size + 1 + 1) 0 #[] 0 (.func (.func 219) #[] #[.pointer (some ⟨w.heap.size + 1, 0, none⟩), .pointer (some ⟨w.heap.size, 0, none⟩)]) Tryz.underlying275 Tryz.underlying3 (alloc_at _ _ _ (by simp)) rfl
  obtain ⟨W2, e2, h2, s2, o2, p2⟩ := run_lay_ex (P := Tryz.prog) W1 275 3 _ (w.heap.size + 1 + 1) _ _ 2 (.func (.func 220) #[] #[.pointer (some ⟨w.heap.size + 1, 0, none⟩), .pointer (some ⟨w.heap.size, 0, none⟩)]) Tryz.underlying275 Tryz.underlying3 h1 rfl
  obtain ⟨W3, e3, h3, s3, o3, p3⟩ := run_lay_ex (P := Tryz.prog) W2 275 3 _ (w.heap.size + 1 + 1) _ _ 3 (.func (.func 222) #[] #[.pointer (some ⟨w.heap.size, 0, none⟩), .pointer (some ⟨w.heap.size + 1, 0, none⟩)]) Tryz.underlying275 Tryz.underlying3 h2 rfl
  obtain ⟨W4, e4, h4, s4, o4, p4⟩ := run_lay_ex (P := Tryz.prog) W3 275 3 _ (w.heap.size + 1 + 1) _ _ 1 (.func (.func 223) #[] #[]) Tryz.underlying275 Tryz.underlying3 h3 rfl
  have e5 := run_find (P := Tryz.prog) W4 275 3 _ (w.heap.size + 1 + 1) _ 3 _ 1 (.func (.func 223) #[] #[]) Tryz.underlying275 Tryz.underlying3 h4 rfl rfl
  have hblk : W4.heap[w.heap.size + 1]? = some C := by
    rw [o4 _ (by omega), o3 _ (by omega), o2 _ (by omega), o1 _ (by omega), Lib.alloc_old _ _ _ (by simp)]
    exact alloc_at _ _ _ (by simp)
  have hpb : W4.heap[w.heap.size]? = some (.cells #[.pointer (some ⟨b, 0, none⟩)] 273 (0, 0)) := by
    rw [o4 _ (by omega), o3 _ (by omega), o2 _ (by omega), o1 _ (by omega), Lib.alloc_old _ _ _ (by simp; omega), Lib.alloc_old _ _ _ (by simp)]
    exact alloc_at _ _ _ rfl
  have hbe : Below w.heap.size w W4 := by
    have b0 := (((Below.refl w.heap.size w).alloc (Nat.le_refl _) (Obj.cells #[.pointer (some ⟨b, 0, none⟩)] 273)).alloc (by simp) C).alloc (by simp; omega) (.map #[] 0)
    have b1 : Below w.heap.size _ W1 := ⟨p1.1, p1.2.1, p1.2.2, Nat.le_of_eq s1.symm, fun k hk => o1 k (by omega)⟩
    have b2 : Below w.heap.size W1 W2 := ⟨p2.1, p2.2.1, p2.2.2, Nat.le_of_eq s2.symm, fun k hk => o2 k (by omega)⟩
    have b3 : Below w.heap.size W2 W3 := ⟨p3.1, p3.2.1, p3.2.2, Nat.le_of_eq s3.symm, fun k hk => o3 k (by omega)⟩
    have b4 : Below w.heap.size W3 W4 := ⟨p4.1, p4.2.1, p4.2.2, Nat.le_of_eq s4.symm, fun k hk => o4 k (by omega)⟩
    exact (((b0.trans b1).trans b2).trans b3).trans b4
  subst hC
  have hcell : W4.cell? ⟨w.heap.size + 1, 3, none⟩ = some (.int .i64 1) := by rw [Lib.cell_of_heap hblk]; rfl
  have hW4 : IsW B b l W4 := IsW.below hW hbe
  have h04 : Below w0.heap.size w0 W4 := h0.trans (hbe.mono h0.size)
  have hB4 : B ≤ W4.heap.size := Nat.le_trans hBw hbe.size
  clear h1 h2 h3 h4 o1 o2 o3 o4 s1 s2 s3 s4 p1 p2 p3 p4
  clear hblk hpb
  go_enter Tryz.func134, Tryz.ntmps134
  go_wp2
  go_end0
  go_wp2
  go_end0
  exact ⟨rfl, by simpa using hW4, hbe.mono hBw⟩
theorem rest_kind2 (B b : Nat) (l : List UInt8) (w0 w : World) (T Wh D vA f6 f7 f8 f9 : Value) (hW : IsW B b l w) (h0 : Below w0.heap.size w0 w) (hB0 : w0.heap.size ≤ B) (hBw : B ≤ w.heap.size) (vM : Value) (ml : List Md) (hA : ModsAt w0 vM ml) (hal : ml.length ≤ 1099511627776) (hlen : l.length + (modB ml).length ≤ 1099511627776) (hty : ∀ x ∈ ml, (0 ≤ x.1 ∧ x.1 ≤ 2) ∧ x.2.1.length ≤ 1099511627776 ∧ x.2.2.length ≤ 1099511627776 ∧ ∀ v ∈ x.2.2, v.length ≤ 1099511627776) :
    Calls Tryz.prog 134 #[.pointer (some ⟨b, 0, none⟩), .agg #[T, Wh, D, .int .i64 2, vA, vM, f6, f7, f8, f9]] w fun e w' => e = .returned (.tuple #[]) ∧ (IsW B b (l ++ modB ml) w' ∧ Below B w w') := by
  have hmm := @run_makeMap Tryz.prog
  have hlb : b < w.heap.size := IsW.lt hW
  obtain ⟨C, hC⟩ : ∃ C, Obj.cells #[T, Wh, D, .int .i64 2, vA, vM, f6, f7, f8, f9] 47 = C := ⟨_, rfl⟩
  obtain ⟨W1, e1, h1, s1, o1, p1⟩ := run_lay_ex (P := Tryz.prog) (((w.alloc (Obj.cells #[.pointer (some ⟨b, 0, none⟩)] 273)).alloc C).alloc (.map #[] 0)) 275 3 _ (w.heap.size + 1 + 1) 0 #[] 0 (.func (.func 219) #[] #[.pointer (some ⟨w.heap.size + 1, 0, none⟩), .pointer (some ⟨w.heap.size, 0, none⟩)]) Tryz.underlying275 Tryz.underlying3 (alloc_at _ _ _ (by simp)) rfl
  obtain ⟨W2, e2, h2, s2, o2, p2⟩ := run_lay_ex (P := Tryz.prog) W1 275 3 _ (w.heap.size + 1 + 1) _ _ 2 (.func (.func 220) #[] #[.pointer (some ⟨w.heap.size + 1, 0, none⟩), .pointer (some ⟨w.heap.size, 0, none⟩)]) Tryz.underlying275 Tryz.underlying3 h1 rfl
  obtain ⟨W3, e3, h3, s3, o3, p3⟩ := run_lay_ex (P := Tryz.prog) W2 275 3 _ (w.heap.size + 1 + 1) _ _ 3 (.func (.func 222) #[] #[.pointer (some ⟨w.heap.size, 0, none⟩), .pointer (some ⟨w.heap.size + 1, 0, none⟩)]) Tryz.underlying275 Tryz.underlying3 h2 rfl
  obtain ⟨W4, e4, h4, s4, o4, p4⟩ := run_lay_ex (P := Tryz.prog) W3 275 3 _ (w.heap.size + 1 + 1) _ _ 1 (.func (.func 223) #[] #[]) Tryz.underlying275 Tryz.underlying3 h3 rfl
  have e5 := run_find (P := Tryz.prog) W4 275 3 _ (w.heap.size + 1 + 1) _ 1 _ 2 (.func (.func 220) #[] #[.pointer (some ⟨w.heap.size + 1, 0, none⟩), .pointer (some ⟨w.heap.size, 0, none⟩)]) Tryz.underlying275 Tryz.underlying3 h4 rfl rfl
  have hblk : W4.heap[w.heap.size + 1]? = some C := by
    rw [o4 _ (by omega), o3 _ (by omega), o2 _ (by omega), o1 _ (by omega), Lib.alloc_old _ _ _ (by simp)]
    exact alloc_at _ _ _ (by simp)
  have hpb : W4.heap[w.heap.size]? = some (.cells #[.pointer (some ⟨b, 0, none⟩)] 273 (0, 0)) := by
    rw [o4 _ (by omega), o3 _ (by omega), o2 _ (by omega), o1 _ (by omega), Lib.alloc_old _ _ _ (by simp; omega), Lib.alloc_old _ _ _ (by simp)]
    exact alloc_at _ _ _ rfl
  have hbe : Below w.heap.size w W4 := by
    have b0 := (((Below.refl w.heap.size w).alloc (Nat.le_refl _) (Obj.cells #[.pointer (some ⟨b, 0, none⟩)] 273)).alloc (by simp) C).alloc (by simp; omega) (.map #[] 0)
    have b1 : Below w.heap.size _ W1 := ⟨p1.1, p1.2.1, p1.2.2, Nat.le_of_eq s1.symm, fun k hk => o1 k (by omega)⟩
    have b2 : Below w.heap.size W1 W2 := ⟨p2.1, p2.2.1, p2.2.2, Nat.le_of_eq s2.symm, fun k hk => o2 k (by omega)⟩
    have b3 : Below w.heap.size W2 W3 := ⟨p3.1, p3.2.1, p3.2.2, Nat.le_of_eq s3.symm, fun k hk => o3 k (by omega)⟩
    have b4 : Below w.heap.size W3 W4 := ⟨p4.1, p4.2.1, p4.2.2, Nat.le_of_eq s4.symm, fun k hk => o4 k (by omega)⟩
    exact (((b0.trans b1).trans b2).trans b3).trans b4
  subst hC
  have hcell : W4.cell? ⟨w.heap.size + 1, 3, none⟩ = some (.int .i64 2) := by rw [Lib.cell_of_heap hblk]; rfl
  have hW4 : IsW B b l W4 := IsW.below hW hbe
  have h04 : Below w0.heap.size w0 W4 := h0.trans (hbe.mono h0.size)
  have hB4 : B ≤ W4.heap.size := Nat.le_trans hBw hbe.size
  clear h1 h2 h3 h4 o1 o2 o3 o4 s1 s2 s3 s4 p1 p2 p3 p4
  have kr := rest2_any B b (w.heap.size + 1) w.heap.size l vM ml #[T, Wh, D, .int .i64 2, vA, vM, f6, f7, f8, f9] w0 W4 hW4 hA h04 hB0 hB4 hblk rfl hpb (by omega) (by omega) hal hlen hty
  clear hblk hpb
  go_enter Tryz.func134, Tryz.ntmps134
  go_wp2_with (go_at_call 220; refine Calls.mono (show Calls _ _ _ _ _ from kr) ?_; rintro e w5 ⟨rfl, hW5, hb5, hk5⟩)
  go_end0
  exact ⟨rfl, hW5, (hbe.mono hBw).trans hb5⟩
theorem rest_kind3 (B b : Nat) (l : List UInt8) (w0 w : World) (T Wh D vA vM : Value) (hW : IsW B b l w) (h0 : Below w0.heap.size w0 w) (_hB0 : w0.heap.size ≤ B) (hBw : B ≤ w.heap.size) (c : Chg) (hl : l.length ≤ 1000000000) (hn6 : c.newRdn.length ≤ 1000000000) (hn7 : c.newSup.length ≤ 1000000000) :
    Calls Tryz.prog 134 #[.pointer (some ⟨b, 0, none⟩), .agg #[T, Wh, D, .int .i64 3, vA, vM, (.string ⟨c.newRdn.toArray⟩), (.string ⟨c.newSup.toArray⟩), (.bool c.delOld), (.bool c.hasSup)]] w fun e w' => e = .returned (.tuple #[]) ∧ (IsW B b (l ++ moveB c) w' ∧ Below B w w') := by
  have hmm := @run_makeMap Tryz.prog
  have hlb : b < w.heap.size := IsW.lt hW
  obtain ⟨C, hC⟩ : ∃ C, Obj.cells #[T, Wh, D, .int .i64 3, vA, vM, (.string ⟨c.newRdn.toArray⟩), (.string ⟨c.newSup.toArray⟩), (.bool c.delOld), (.bool c.hasSup)] 47 = C := ⟨_, rfl⟩
  obtain ⟨W1, e1, h1, s1, o1, p1⟩ := run_lay_ex (P := Tryz.prog) (((w.alloc (Obj.cells #[.pointer (some ⟨b, 0, none⟩)] 273)).alloc C).alloc (.map #[] 0)) 275 3 _ (w.heap.size + 1 + 1) 0 #[] 0 (.func (.func 219) #[] #[.pointer (some ⟨w.heap.size + 1, 0, none⟩), .pointer (some ⟨w.heap.size, 0, none⟩)]) Tryz.underlying275 Tryz.underlying3 (alloc_at _ _ _ (by simp)) rfl
  obtain ⟨W2, e2, h2, s2, o2, p2⟩ := run_lay_ex (P := Tryz.prog) W1 275 3 _ (w.heap.size + 1 + 1) _ _ 2 (.func (.func 220) #[] #[.pointer (some ⟨w.heap.size + 1, 0, none⟩), .pointer (some ⟨w.heap.size, 0, none⟩)]) Tryz.underlying275 Tryz.underlying3 h1 rfl
  obtain ⟨W3, e3, h3, s3, o3, p3⟩ := run_lay_ex (P := Tryz.prog) W2 275 3 _ (w.heap.size + 1 + 1) _ _ 3 (.func (.func 222) #[] #[.pointer (some ⟨w.heap.size, 0, none⟩), .pointer (some ⟨w.heap.size + 1, 0, none⟩)]) Tryz.underlying275 Tryz.underlying3 h2 rfl
  obtain ⟨W4, e4, h4, s4, o4, p4⟩ := run_lay_ex (P := Tryz.prog) W3 275 3 _ (w.heap.size + 1 + 1) _ _ 1 (.func (.func 223) #[] #[]) Tryz.underlying275 Tryz.underlying3 h3 rfl
  have e5 := run_find (P := Tryz.prog) W4 275 3 _ (w.heap.size + 1 + 1) _ 2 _ 3 (.func (.func 222) #[] #[.pointer (some ⟨w.heap.size, 0, none⟩), .pointer (some ⟨w.heap.size + 1, 0, none⟩)]) Tryz.underlying275 Tryz.underlying3 h4 rfl rfl
  have hblk : W4.heap[w.heap.size + 1]? = some C := by
    rw [o4 _ (by omega), o3 _ (by omega), o2 _ (by omega), o1 _ (by omega), Lib.alloc_old _ _ _ (by simp)]
    exact alloc_at _ _ _ (by simp)
  have hpb : W4.heap[w.heap.size]? = some (.cells #[.pointer (some ⟨b, 0, none⟩)] 273 (0, 0)) := by
    rw [o4 _ (by omega), o3 _ (by omega), o2 _ (by omega), o1 _ (by omega), Lib.alloc_old _ _ _ (by simp; omega), Lib.alloc_old _ _ _ (by simp)]
    exact alloc_at _ _ _ rfl
  have hbe : Below w.heap.size w W4 := by
    have b0 := (((Below.refl w.heap.size w).alloc (Nat.le_refl _) (Obj.cells #[.pointer (some ⟨b, 0, none⟩)] 273)).alloc (by simp) C).alloc (by simp; omega) (.map #[] 0)
    have b1 : Below w.heap.size _ W1 := ⟨p1.1, p1.2.1, p1.2.2, Nat.le_of_eq s1.symm, fun k hk => o1 k (by omega)⟩
    have b2 : Below w.heap.size W1 W2 := ⟨p2.1, p2.2.1, p2.2.2, Nat.le_of_eq s2.symm, fun k hk => o2 k (by omega)⟩
    have b3 : Below w.heap.size W2 W3 := ⟨p3.1, p3.2.1, p3.2.2, Nat.le_of_eq s3.symm, fun k hk => o3 k (by omega)⟩
    have b4 : Below w.heap.size W3 W4 := ⟨p4.1, p4.2.1, p4.2.2, Nat.le_of_eq s4.symm, fun k hk => o4 k (by omega)⟩
    exact (((b0.trans b1).trans b2).trans b3).trans b4
  subst hC
  have hcell : W4.cell? ⟨w.heap.size + 1, 3, none⟩ = some (.int .i64 3) := by rw [Lib.cell_of_heap hblk]; rfl
  have hW4 : IsW B b l W4 := IsW.below hW hbe
  have h04 : Below w0.heap.size w0 W4 := h0.trans (hbe.mono h0.size)
  have hB4 : B ≤ W4.heap.size := Nat.le_trans hBw hbe.size
  clear h1 h2 h3 h4 o1 o2 o3 o4 s1 s2 s3 s4 p1 p2 p3 p4
  have kr := rest3_any B b (w.heap.size + 1) w.heap.size l c #[T, Wh, D, .int .i64 3, vA, vM, (.string ⟨c.newRdn.toArray⟩), (.string ⟨c.newSup.toArray⟩), (.bool c.delOld), (.bool c.hasSup)] W4 hW4 hB4 hblk rfl rfl rfl rfl hpb (by omega) (by omega) hl hn6 hn7
  clear hblk hpb
  go_enter Tryz.func134, Tryz.ntmps134
  go_wp2_with (go_at_call 222; refine Calls.mono (show Calls _ _ _ _ _ from kr) ?_; rintro e w5 ⟨rfl, hW5, hb5, hk5⟩)
  go_end0
  exact ⟨rfl, hW5, (hbe.mono hBw).trans hb5⟩
end Go.Proofs.YtegigcneimjimaaGreatDoor
