/- VaA, OpA. -/
import Derived.Test.YthjaiigijbjloaaGreatDoorQ13
import Derived.Test.YthjaiigijbjloaaGreatDoorQ31
import Derived.Test.YthjaiigijbjloaaGreatDoorQ32
import Derived.Test.YthjaiigijbjloaaGreatDoorQ40
namespace Go.Proofs.YthjaiigijbjloaaGreatDoor
open Go.RowKit Go.Lib
theorem anyH_skip {P : Program} {md : Region.Mode} {ops : Array Oper} {Q : Exit → Act → World → Prop} {S : World → Prop} (i : Nat) {oi : Oper} {fuel : Nat} {listed : Array Bool} {a : Act} {w : World} (hi : ops[i]? = some oi)
  (hs : Region.noSelect ops = true) (hf : Region.free md ops listed i = true) (hr : (Region.ready md ops listed).contains i = true) (hQ : ∀ c a w, Q (.panic c) (a.put oi.dst undef) w → Q (.panic c) a w)
  (hw : Region.wanted oi (yielded ops a.tmps) = false) (hS : S w)
  (h : ∀ K' : Act → World → Prop, (∀ a w, wpAnyH P md ops Q S fuel (listed.setIfInBounds i true) a w → K' a w) → K' (a.put oi.dst undef) w) : wpAnyH P md ops Q S (fuel + 1) listed a w :=
 wpAnyH_take hi hs hf hr hQ (Or.inr ⟨hw, rfl⟩) hS (h _ (fun _ _ k => k))
def keptF (m : Mg) (l : Ls) : Nat := if m.op = 3 then l.filt.length else 0
def keptS (m : Mg) (l : Ls) : Nat := if m.op = 3 then l.sel.length else 0
def keptM (m : Mg) (l : Ls) : Nat := if m.op = 6 then l.mods.length else 0
def keptA (m : Mg) (l : Ls) : Nat := if m.op = 8 ∨ m.op = 4 then l.attrs.length else 0
def lensB (m : Mg) (l : Ls) : Bool := (keptF m l == l.filt.length) && (keptS m l == l.sel.length) && (keptM m l == l.mods.length) && (keptA m l == l.attrs.length)
def validB (m : Mg) (l : Ls) : Bool := kindB m l && rngB m.id 2147483647 && plEq (bareM m) m && lensB m l && !(l.ctl.any ctBad)
theorem bareM_lists {w : World} {m : Mg} {l : Ls} (h : MgM w m l) : (∃ a c, (bareM m).filt = .slice a (keptF m l) c) ∧ (∃ a c, (bareM m).sel = .slice a (keptS m l) c) ∧ (∃ a c, (bareM m).mods = .slice a (keptM m l) c) ∧ (∃ a c, (bareM m).attrs = .slice a (keptA m l) c) ∧ (∃ a c, (bareM m).ctl = .slice a l.ctl.length c) := by
 obtain ⟨a1, c1, e1⟩ := h.filt.shape
 obtain ⟨a2, c2, e2, -, -⟩ := h.sel
 obtain ⟨a3, c3, e3, -, -⟩ := h.mods
 obtain ⟨a4, c4, e4, -, -⟩ := h.attrs
 obtain ⟨a5, c5, e5, -, -⟩ := h.ctl
 unfold bareM keptF keptS keptM keptA
 by_cases h0 : m.op = 0
 ·simp [h0, e1, e2, e3, e4, e5]
 by_cases h3 : m.op = 3
 ·simp [h3, e1, e2, e3, e4, e5]
 by_cases h6 : m.op = 6
 ·simp [h6, e1, e2, e3, e4, e5]
 by_cases h8 : m.op = 8 ∨ m.op = 4
 ·rcases h8 with h8 | h8 <;> simp [h8, e1, e2, e3, e4, e5]
 simp only [h0, h3, h6, h8, if_false]
 refine ⟨?_, ?_, ?_, ?_, ?_⟩
 all_goals (repeat' split) <;> simp [e5]
theorem bareM_cells {w : World} {m : Mg} {l : Ls} (h : MgM w m l) : (Mg.row (bareM m)).all (·.oneCell') = true := by
 obtain ⟨⟨a1, c1, e1⟩, ⟨a2, c2, e2⟩, ⟨a3, c3, e3⟩, ⟨a4, c4, e4⟩, a5, c5, e5⟩ := bareM_lists h
 simp [Mg.row, Value.oneCell', e1, e2, e3, e4, e5]
set_option maxRecDepth 100000 in
set_option maxHeartbeats 8000000 in
theorem valid_any (m : Mg) (l : Ls) (w : World) (hm : MgM w m l) (hlm : l.mods.length ≤ 1000000000) (hlc : l.ctl.length ≤ 1000000000)
  (kf : m.op = 3 → ∀ w' : World, Below w.heap.size w w' → Calls Tryz.prog 90 #[m.filt] w' fun e w2 => e = .returned (.bool (filtB l.filt)) ∧ Below w'.heap.size w' w2) :
  Calls Tryz.prog 14 #[.agg m.row] w fun e w' => e = .returned (.bool (validB m l)) ∧ Below w.heap.size w w' := by
 obtain ⟨OK, hOK⟩ : ∃ b, validB m l = b := ⟨_, rfl⟩
 rw [hOK]
 have HOK := hid hOK
 clear hOK
 obtain ⟨A, hA⟩ : ∃ A, m.row = A := ⟨_, rfl⟩
 have kb : ∀ w1, Below w.heap.size w w1 → Calls Tryz.prog 39 #[.agg A] w1 fun e w' => e = .returned (.tuple #[.agg (Mg.row (bareM m)), .bool (kindB m l)]) ∧ Below w1.heap.size w1 w' := fun w1 hb => by
  rw [← hA]
  exact bare_any m l w1 (hm.below hb) hlm (fun h3 w2 hb2 => kf h3 w2 (hb.trans (hb2.mono hb.size)))
 have kpA := plain_any m
 have kpX := plain_any (bareM m)
 have ke := equal_pv2 (bareM m) m
 have hcells := bareM_cells hm
 have hlists := bareM_lists hm
 obtain ⟨X, hX⟩ : ∃ X, Mg.row (bareM m) = X := ⟨_, rfl⟩
 obtain ⟨PA, hPA⟩ : ∃ P, m.pv = P := ⟨_, rfl⟩
 obtain ⟨PX, hPX⟩ : ∃ P, (bareM m).pv = P := ⟨_, rfl⟩
 obtain ⟨KB, hKB⟩ : ∃ b, kindB m l = b := ⟨_, rfl⟩
 obtain ⟨EB, hEB⟩ : ∃ b, plEq (bareM m) m = b := ⟨_, rfl⟩
 rw [hX, hKB] at kb
 rw [hA]
 rw [hA, hPA] at kpA
 rw [hX, hPX] at kpX
 rw [hPA, hPX, hEB] at ke
 rw [hX] at hcells
 have hX2 : X.size = 28 := by rw [← hX]; rfl
 have hA2 : A.size = 28 := by rw [← hA]; rfl
 have HKB := hid kb
 have HPA := hid kpA
 have HPX := hid kpX
 have HE := hid ke
 have HC := hid hcells
 have HL := hid hlists
 have HX := hid hX
 have HX2 := hid hX2
 have HA := hid hA
 have HA2 := hid hA2
 have EKB := hid hKB
 have EEB := hid hEB
 have HM := hid hm
 clear kb kpA kpX ke hcells hlists hX hX2 hA hA2 hPA hPX hKB hEB hm kf
 have b1 : Below w.heap.size w (w.alloc (.cells A 28)) := (Below.refl _ _).alloc (Nat.le_refl _) _
 have m1 : (w.alloc (.cells A 28)).heap[w.heap.size]? = some (.cells A 28 (0, 0)) := alloc_at _ _ _ rfl
 go_enter Tryz.func14, Tryz.ntmps14
 go_upto_region 1 with fail
 generalize w.alloc (.cells A 28) = w1 at b1 m1 ⊢
 have kb := HKB.out w1 b1
 clear HKB
 go_wp2_with (refine wpList_loadRow rfl 28 (.tmp 1) rfl w.heap.size 28 _ (0, 0) (by rfl) m1 _ Tryz.underlying28 rfl (by rw [HA2.out]; rfl) ?_)
 refine Calls.mono kb ?_
 rintro e w2 ⟨rfl, hb2⟩
 have m2 := (hb2.block _ (gl m1)).trans m1
 have b2 := b1.trans (hb2.mono b1.size)
 clear kb hb2 m1 b1
 have x3 : (w2.alloc (.cells Zm 28)).heap[w2.heap.size]? = some (.cells Zm 28 (0, 0)) := alloc_at _ _ _ rfl
 have b3 := b2.trans ((Below.refl w2.heap.size w2).alloc (Nat.le_refl _) (.cells Zm 28) |>.mono b2.size)
 have m3 := (alloc_old w2 (.cells Zm 28) w.heap.size (gl m2)).trans m2
 have hg : w.heap.size < w2.heap.size := (gl m2)
 have b4 := below_row b3 (g := w2.heap.size) (by omega) X
 have m4 := (setRow_other (w2.alloc (.cells Zm 28)) w2.heap.size w.heap.size X (by omega)).trans m3
 have x4 := setRow_heap (w2.alloc (.cells Zm 28)) w2.heap.size _ X _ _ x3
 have X3 := hid x3
 clear b2 m2 b3 m3 x3
 go_wp2_with (refine wpList_storeRow rfl 28 (.tmp 3) (.tmp 8) rfl w2.heap.size 28 _ X (by rfl) (by rfl) X3.out (by rw [HX2.out]; rfl) (by rw [HX2.out]; rfl) HC.out ?_)
 generalize (w2.alloc (.cells Zm 28)).setRow w2.heap.size X = w4 at b4 m4 x4 ⊢
 clear X3
 generalize w2.heap.size = g at x4 hg ⊢
 refine wp_region_held (S := fun w' => w'.heap[w.heap.size]? = some (.cells A 28 (0, 0)) ∧ w'.heap[g]? = some (.cells X 28 (0, 0))) (by kernel_rfl) ?_
 have T : w4.drew.heap[w.heap.size]? = some (.cells A 28 (0, 0)) ∧ w4.drew.heap[g]? = some (.cells X 28 (0, 0)) := ⟨m4, x4⟩
 have D : Below w.heap.size w w4.drew := b4.drew
 change wpAnyH _ _ _ _ _ _ _ _ w4.drew
 clear m4 x4 b4
 generalize w4.drew = w5 at T D ⊢
 cases KB
 ·refine tk 0 (.bool false) rfl (fun w' hS => by go_simp) T (fun K hK => ?_); go_simp; refine hK _ _ ?_; clear hK K
  refine tk 1 (.bool true) rfl (fun w' hS => by go_simp) T (fun K hK => ?_); go_simp; refine hK _ _ ?_; clear hK K
  refine tk 2 (.bool true) rfl (fun w' hS => by go_simp) T (fun K hK => ?_); go_simp; refine hK _ _ ?_; clear hK K
  refine anyH_skip 3 rfl (by kernel_rfl) (by kernel_rfl) (by kernel_rfl) (fun _ _ _ h => h) (by rfl) T (fun K hK => ?_); go_simp; refine hK _ _ ?_; clear hK K
  refine anyH_skip 4 rfl (by kernel_rfl) (by kernel_rfl) (by kernel_rfl) (fun _ _ _ h => h) (by rfl) T (fun K hK => ?_); go_simp; refine hK _ _ ?_; clear hK K
  refine anyH_skip 5 rfl (by kernel_rfl) (by kernel_rfl) (by kernel_rfl) (fun _ _ _ h => h) (by rfl) T (fun K hK => ?_); go_simp; refine hK _ _ ?_; clear hK K
  refine anyH_skip 6 rfl (by kernel_rfl) (by kernel_rfl) (by kernel_rfl) (fun _ _ _ h => h) (by rfl) T (fun K hK => ?_); go_simp; refine hK _ _ ?_; clear hK K
  refine tk 7 (.bool true) rfl (fun w' hS => by go_simp) T (fun K hK => ?_); go_simp; refine hK _ _ ?_; clear hK K
  refine tk 8 (.bool true) rfl (fun w' hS => by go_simp) T (fun K hK => ?_); go_simp; refine hK _ _ ?_; clear hK K
  refine anyH_skip 9 rfl (by kernel_rfl) (by kernel_rfl) (by kernel_rfl) (fun _ _ _ h => h) (by rfl) T (fun K hK => ?_); go_simp; refine hK _ _ ?_; clear hK K
  refine anyH_skip 10 rfl (by kernel_rfl) (by kernel_rfl) (by kernel_rfl) (fun _ _ _ h => h) (by rfl) T (fun K hK => ?_); go_simp; refine hK _ _ ?_; clear hK K
  refine anyH_skip 11 rfl (by kernel_rfl) (by kernel_rfl) (by kernel_rfl) (fun _ _ _ h => h) (by rfl) T (fun K hK => ?_); go_simp; refine hK _ _ ?_; clear hK K
  refine anyH_skip 12 rfl (by kernel_rfl) (by kernel_rfl) (by kernel_rfl) (fun _ _ _ h => h) (by rfl) T (fun K hK => ?_); go_simp; refine hK _ _ ?_; clear hK K
  refine anyH_skip 13 rfl (by kernel_rfl) (by kernel_rfl) (by kernel_rfl) (fun _ _ _ h => h) (by rfl) T (fun K hK => ?_); go_simp; refine hK _ _ ?_; clear hK K
  refine tk 14 (.bool true) rfl (fun w' hS => by go_simp) T (fun K hK => ?_); go_simp; refine hK _ _ ?_; clear hK K
  refine tk 15 (.bool true) rfl (fun w' hS => by go_simp) T (fun K hK => ?_); go_simp; refine hK _ _ ?_; clear hK K
  refine wpAnyH_done (by kernel_rfl) ?_ _
  try simp only [Exit.then]
  refine ‹∀ (a : Act) (w : World), Code.wp _ _ _ a w → _› _ _ ?_
  have hO : OK = false := by rw [← HOK.out]; simp [validB, EKB.out]
  have HO := hid hO
  clear hO
  go_wp2_with fail
  go_ret
  exact ⟨by rw [HO.out]; rfl, D⟩
 ·refine tk 0 (.bool true) rfl (fun w' hS => by go_simp) T (fun K hK => ?_); go_simp; refine hK _ _ ?_; clear hK K
  refine tk 1 (.bool false) rfl (fun w' hS => by go_simp) T (fun K hK => ?_); go_simp; refine hK _ _ ?_; clear hK K
  refine tk 2 (.bool false) rfl (fun w' hS => by go_simp) T (fun K hK => ?_); go_simp; refine hK _ _ ?_; clear hK K
  refine tk 3 (.pointer (some ⟨w.heap.size, 0, none⟩)) rfl (fun w' hS => by go_simp) T (fun K hK => ?_); go_simp; refine hK _ _ ?_; clear hK K
  refine tk 4 (.int .i64 m.id) rfl (fun w' hS => by have q := (cell_of_heap hS.1 0).trans (show _ = some (Value.int .i64 m.id) from by rw [← HA.out]; rfl); go_simp) T (fun K hK => ?_); go_simp; refine hK _ _ ?_; clear hK K
  have kr := inRange_any m.id 2147483647 w5
  obtain ⟨RB, hRB⟩ : ∃ b, rngB m.id 2147483647 = b := ⟨_, rfl⟩
  rw [hRB] at kr
  have ERB := hid hRB
  clear hRB
  refine anyH_one 5 (by kernel_rfl) rfl (by rfl) (fun K hK => ?_); go_simp; go_wp2_with fail
  refine Calls.mono kr ?_
  rintro e w6 ⟨rfl, hw6⟩
  rw [hw6]
  clear hw6 kr
  refine hK _ _ T ?_; clear hK K
  cases RB
  ·refine tk 6 (.bool true) rfl (fun w' hS => by go_simp) T (fun K hK => ?_); go_simp; refine hK _ _ ?_; clear hK K
   refine tk 7 (.bool true) rfl (fun w' hS => by go_simp) T (fun K hK => ?_); go_simp; refine hK _ _ ?_; clear hK K
   refine tk 8 (.bool true) rfl (fun w' hS => by go_simp) T (fun K hK => ?_); go_simp; refine hK _ _ ?_; clear hK K
   refine anyH_skip 9 rfl (by kernel_rfl) (by kernel_rfl) (by kernel_rfl) (fun _ _ _ h => h) (by rfl) T (fun K hK => ?_); go_simp; refine hK _ _ ?_; clear hK K
   refine anyH_skip 10 rfl (by kernel_rfl) (by kernel_rfl) (by kernel_rfl) (fun _ _ _ h => h) (by rfl) T (fun K hK => ?_); go_simp; refine hK _ _ ?_; clear hK K
   refine anyH_skip 11 rfl (by kernel_rfl) (by kernel_rfl) (by kernel_rfl) (fun _ _ _ h => h) (by rfl) T (fun K hK => ?_); go_simp; refine hK _ _ ?_; clear hK K
   refine anyH_skip 12 rfl (by kernel_rfl) (by kernel_rfl) (by kernel_rfl) (fun _ _ _ h => h) (by rfl) T (fun K hK => ?_); go_simp; refine hK _ _ ?_; clear hK K
   refine anyH_skip 13 rfl (by kernel_rfl) (by kernel_rfl) (by kernel_rfl) (fun _ _ _ h => h) (by rfl) T (fun K hK => ?_); go_simp; refine hK _ _ ?_; clear hK K
   refine tk 14 (.bool true) rfl (fun w' hS => by go_simp) T (fun K hK => ?_); go_simp; refine hK _ _ ?_; clear hK K
   refine tk 15 (.bool true) rfl (fun w' hS => by go_simp) T (fun K hK => ?_); go_simp; refine hK _ _ ?_; clear hK K
   refine wpAnyH_done (by kernel_rfl) ?_ _
   try simp only [Exit.then]
   refine ‹∀ (a : Act) (w : World), Code.wp _ _ _ a w → _› _ _ ?_
   have hO : OK = false := by rw [← HOK.out]; simp [validB, ERB.out]
   have HO := hid hO
   clear hO
   go_wp2_with fail
   go_ret
   exact ⟨by rw [HO.out]; rfl, D⟩
  ·refine tk 6 (.bool false) rfl (fun w' hS => by go_simp) T (fun K hK => ?_); go_simp; refine hK _ _ ?_; clear hK K
   refine tk 7 (.bool false) rfl (fun w' hS => by go_simp) T (fun K hK => ?_); go_simp; refine hK _ _ ?_; clear hK K
   refine tk 8 (.bool false) rfl (fun w' hS => by go_simp) T (fun K hK => ?_); go_simp; refine hK _ _ ?_; clear hK K
   refine tk 9 (.agg X) rfl (fun w' hS => by exact exec_loadRow 28 (.tmp 3) rfl g 28 _ (0, 0) (by rfl) hS.2 _ Tryz.underlying28 rfl (by rw [HX2.out]; rfl)) T (fun K hK => ?_); go_simp; refine hK _ _ ?_; clear hK K
   refine tk 11 (.agg A) rfl (fun w' hS => by exact exec_loadRow 28 (.tmp 1) rfl w.heap.size 28 _ (0, 0) (by rfl) hS.1 _ Tryz.underlying28 rfl (by rw [HA2.out]; rfl)) T (fun K hK => ?_); go_simp; refine hK _ _ ?_; clear hK K
   have kp := HPX.out w5
   refine anyH_one 10 (by kernel_rfl) rfl (by rfl) (fun K hK => ?_); go_simp; go_wp2_with fail
   refine Calls.mono kp ?_
   rintro e w7 ⟨rfl, hb⟩
   have T9 := (⟨(hb.block _ (gl T.1)).trans T.1, (hb.block _ (gl T.2)).trans T.2⟩ : w7.heap[w.heap.size]? = some (.cells A 28 (0, 0)) ∧ w7.heap[g]? = some (.cells X 28 (0, 0)))
   have D9 := D.trans (hb.mono D.size)
   clear kp hb T D
   have T := T9
   have D := D9
   clear T9 D9
   refine hK _ _ T ?_; clear hK K
   have kp := HPA.out w7
   refine anyH_one 12 (by kernel_rfl) rfl (by rfl) (fun K hK => ?_); go_simp; go_wp2_with fail
   refine Calls.mono kp ?_
   rintro e w8 ⟨rfl, hb⟩
   have T9 := (⟨(hb.block _ (gl T.1)).trans T.1, (hb.block _ (gl T.2)).trans T.2⟩ : w8.heap[w.heap.size]? = some (.cells A 28 (0, 0)) ∧ w8.heap[g]? = some (.cells X 28 (0, 0)))
   have D9 := D.trans (hb.mono D.size)
   clear kp hb T D
   have T := T9
   have D := D9
   clear T9 D9
   refine hK _ _ T ?_; clear hK K
   have hgt : Tryz.prog.eqGuardType Tryz.prog.depth 73 = false := by kernel_rfl
   have HG := hid hgt
   clear hgt
   cases EB
   ·refine tk 13 (.bool true) rfl (fun w' hS => by have g := HG.out; go_simp; rw [show Sem.run Tryz.prog (Op.equalIn 10000 73 (.agg PX) (.agg PA)) w' = .ok false w' from HE.out w']; rfl) T (fun K hK => ?_); go_simp; refine hK _ _ ?_; clear hK K
    refine tk 14 (.bool true) rfl (fun w' hS => by go_simp) T (fun K hK => ?_); go_simp; refine hK _ _ ?_; clear hK K
    refine tk 15 (.bool true) rfl (fun w' hS => by go_simp) T (fun K hK => ?_); go_simp; refine hK _ _ ?_; clear hK K
    refine wpAnyH_done (by kernel_rfl) ?_ _
    try simp only [Exit.then]
    refine ‹∀ (a : Act) (w : World), Code.wp _ _ _ a w → _› _ _ ?_
    have hO : OK = false := by rw [← HOK.out]; simp [validB, EEB.out]
    have HO := hid hO
    clear hO
    go_wp2_with fail
    go_ret
    exact ⟨by rw [HO.out]; rfl, D⟩
   ·refine tk 13 (.bool false) rfl (fun w' hS => by have g := HG.out; go_simp; rw [show Sem.run Tryz.prog (Op.equalIn 10000 73 (.agg PX) (.agg PA)) w' = .ok true w' from HE.out w']; rfl) T (fun K hK => ?_); go_simp; refine hK _ _ ?_; clear hK K
    refine tk 14 (.bool false) rfl (fun w' hS => by go_simp) T (fun K hK => ?_); go_simp; refine hK _ _ ?_; clear hK K
    refine tk 15 (.bool false) rfl (fun w' hS => by go_simp) T (fun K hK => ?_); go_simp; refine hK _ _ ?_; clear hK K
    refine wpAnyH_done (by kernel_rfl) ?_ _
    try simp only [Exit.then]
    refine ‹∀ (a : Act) (w : World), Code.wp _ _ _ a w → _› _ _ ?_
    obtain ⟨⟨a1, c1, e1⟩, ⟨a2, c2, e2⟩, ⟨a3, c3, e3⟩, ⟨a4, c4, e4⟩, a5, c5, e5⟩ := HL.out
    obtain ⟨d1, f1, g1⟩ := HM.out.filt.shape
    obtain ⟨d2, f2, g2, -, -⟩ := HM.out.sel
    obtain ⟨d3, f3, g3, -, -⟩ := HM.out.mods
    obtain ⟨d4, f4, g4, -, -⟩ := HM.out.attrs
    have hlens : lensB m l = ((keptF m l == l.filt.length) && (keptS m l == l.sel.length) && (keptM m l == l.mods.length) && (keptA m l == l.attrs.length)) := rfl
    have hAll : OK = (lensB m l && !(l.ctl.any ctBad)) := by rw [← HOK.out]; simp [validB, EKB.out, ERB.out, EEB.out]
    rw [hlens] at hAll
    have kc := contains_ctls m.ctl l.ctl w8 (HM.out.ctl.below D) hlc
    obtain ⟨CB, hCB⟩ : ∃ b, l.ctl.any ctBad = b := ⟨_, rfl⟩
    rw [hCB] at hAll
    have kc2 : Calls Tryz.prog 42 #[m.ctl, .func (.func 43) #[] #[]] w8 fun e w' => e = .returned (.bool CB) ∧ Below w8.heap.size w8 w' := by rw [← hCB]; exact kc
    clear kc hCB hlens
    have p11 : w8.cell? ⟨w.heap.size, 11, none⟩ = some (.slice d1 (l.filt.length) f1) := (cell_of_heap T.1 11).trans (by rw [← HA.out, ← g1]; rfl)
    have r11 : w8.cell? ⟨g, 11, none⟩ = some (.slice a1 (keptF m l) c1) := (cell_of_heap T.2 11).trans (by rw [← HX.out, ← e1]; rfl)
    obtain ⟨NX0, hNX0⟩ : ∃ n, keptF m l = n := ⟨_, rfl⟩
    obtain ⟨NM0, hNM0⟩ : ∃ n, l.filt.length = n := ⟨_, rfl⟩
    rw [hNX0] at r11 hAll
    rw [hNM0] at p11 hAll
    clear hNX0 hNM0
    have p12 : w8.cell? ⟨w.heap.size, 12, none⟩ = some (.slice d2 (l.sel.length) f2) := (cell_of_heap T.1 12).trans (by rw [← HA.out, ← g2]; rfl)
    have r12 : w8.cell? ⟨g, 12, none⟩ = some (.slice a2 (keptS m l) c2) := (cell_of_heap T.2 12).trans (by rw [← HX.out, ← e2]; rfl)
    obtain ⟨NX1, hNX1⟩ : ∃ n, keptS m l = n := ⟨_, rfl⟩
    obtain ⟨NM1, hNM1⟩ : ∃ n, l.sel.length = n := ⟨_, rfl⟩
    rw [hNX1] at r12 hAll
    rw [hNM1] at p12 hAll
    clear hNX1 hNM1
    have p13 : w8.cell? ⟨w.heap.size, 13, none⟩ = some (.slice d3 (l.mods.length) f3) := (cell_of_heap T.1 13).trans (by rw [← HA.out, ← g3]; rfl)
    have r13 : w8.cell? ⟨g, 13, none⟩ = some (.slice a3 (keptM m l) c3) := (cell_of_heap T.2 13).trans (by rw [← HX.out, ← e3]; rfl)
    obtain ⟨NX2, hNX2⟩ : ∃ n, keptM m l = n := ⟨_, rfl⟩
    obtain ⟨NM2, hNM2⟩ : ∃ n, l.mods.length = n := ⟨_, rfl⟩
    rw [hNX2] at r13 hAll
    rw [hNM2] at p13 hAll
    clear hNX2 hNM2
    have p14 : w8.cell? ⟨w.heap.size, 14, none⟩ = some (.slice d4 (l.attrs.length) f4) := (cell_of_heap T.1 14).trans (by rw [← HA.out, ← g4]; rfl)
    have r14 : w8.cell? ⟨g, 14, none⟩ = some (.slice a4 (keptA m l) c4) := (cell_of_heap T.2 14).trans (by rw [← HX.out, ← e4]; rfl)
    obtain ⟨NX3, hNX3⟩ : ∃ n, keptA m l = n := ⟨_, rfl⟩
    obtain ⟨NM3, hNM3⟩ : ∃ n, l.attrs.length = n := ⟨_, rfl⟩
    rw [hNX3] at r14 hAll
    rw [hNM3] at p14 hAll
    clear hNX3 hNM3
    obtain ⟨d5, f5, g5, -, -⟩ := HM.out.ctl
    have p27 : w8.cell? ⟨w.heap.size, 27, none⟩ = some m.ctl := (cell_of_heap T.1 27).trans (by rw [← HA.out]; rfl)
    rw [g5] at p27 kc2
    clear T e1 e2 e3 e4 e5 g1 g2 g3 g4 g5
    by_cases h0 : NX0 = NM0
    rotate_left
    ·have i0 : ((NX0 : Int) == (NM0 : Int)) = false := by rw [beq_eq_false_iff_ne]; omega
     have i0b : ((NX0 : Int) != (NM0 : Int)) = true := by simp only [bne, i0]; rfl
     have hO : OK = false := by rw [hAll, show (NX0 == NM0) = false from beq_false_of_ne h0]; simp
     have HO := hid hO
     clear hO hAll h0
     go_wp2_with fail
     go_ret
     exact ⟨by rw [HO.out]; rfl, D⟩
    subst h0
    by_cases h1 : NX1 = NM1
    rotate_left
    ·have i1 : ((NX1 : Int) == (NM1 : Int)) = false := by rw [beq_eq_false_iff_ne]; omega
     have i1b : ((NX1 : Int) != (NM1 : Int)) = true := by simp only [bne, i1]; rfl
     have hO : OK = false := by rw [hAll, show (NX1 == NM1) = false from beq_false_of_ne h1]; simp
     have HO := hid hO
     clear hO hAll h1
     go_wp2_with fail
     go_ret
     exact ⟨by rw [HO.out]; rfl, D⟩
    subst h1
    by_cases h2 : NX2 = NM2
    rotate_left
    ·have i2 : ((NX2 : Int) == (NM2 : Int)) = false := by rw [beq_eq_false_iff_ne]; omega
     have i2b : ((NX2 : Int) != (NM2 : Int)) = true := by simp only [bne, i2]; rfl
     have hO : OK = false := by rw [hAll, show (NX2 == NM2) = false from beq_false_of_ne h2]; simp
     have HO := hid hO
     clear hO hAll h2
     go_wp2_with fail
     go_ret
     exact ⟨by rw [HO.out]; rfl, D⟩
    subst h2
    by_cases h3 : NX3 = NM3
    rotate_left
    ·have i3 : ((NX3 : Int) == (NM3 : Int)) = false := by rw [beq_eq_false_iff_ne]; omega
     have i3b : ((NX3 : Int) != (NM3 : Int)) = true := by simp only [bne, i3]; rfl
     have hO : OK = false := by rw [hAll, show (NX3 == NM3) = false from beq_false_of_ne h3]; simp
     have HO := hid hO
     clear hO hAll h3
     go_wp2_with fail
     go_ret
     exact ⟨by rw [HO.out]; rfl, D⟩
    subst h3
    have hO : OK = !CB := by rw [hAll]; simp
    have HO := hid hO
    clear hO hAll
    go_wp2_with fail
    refine Calls.mono kc2 ?_
    rintro e w9 ⟨rfl, hb⟩
    have D9 := D.trans (hb.mono D.size)
    clear kc2 hb D
    go_wp2_with fail
    go_ret
    exact ⟨by rw [HO.out]; rfl, D9⟩
structure LsOk (m : Mg) (l : Ls) : Prop where
 dn : m.dn.length ≤ 100000000
 secret : m.secret.length ≤ 100000000
 newRdn : m.newRdn.length ≤ 100000000
 newSup : m.newSup.length ≤ 100000000
 typ : m.typ.length ≤ 100000000
 value : m.value.length ≤ 100000000
 oid : m.oid.length ≤ 100000000
 matched : m.matched.length ≤ 100000000
 text : m.text.length ≤ 100000000
 filt : FlOk l.filt
 sel : l.sel.length ≤ 100000000
 sels : ∀ s ∈ l.sel, s.length ≤ 1000000000
 mods : l.mods.length ≤ 100000000
 modss : ∀ x ∈ l.mods, x.2.1.length ≤ 1000000000 ∧ x.2.2.length ≤ 100000000 ∧ ∀ s ∈ x.2.2, s.length ≤ 1000000000
 attrs : AtsOk l.attrs
 ctl : l.ctl.length ≤ 100000000
 ctls : ∀ c ∈ l.ctl, c.oid.length ≤ 100000000 ∧ c.value.length ≤ 100000000
def natM (ml : List Md) : List Mo := ml.map fun x => (x.1.toNat, x.2)
theorem natM_mem {ml : List Md} (h : ml.all (fun x => rngB x.1 2) = true) {x : Md} (hx : x ∈ ml) : 0 ≤ x.1 ∧ x.1 ≤ 2 := by
 have := List.all_eq_true.1 h x hx
 simp only [rngB, Bool.and_eq_true, decide_eq_true_eq] at this
 exact this
theorem MdsM.nat {w : World} {v : Value} {ml : List Md} (h : MdsM w v ml) (hr : ml.all (fun x => rngB x.1 2) = true) : ModsM w v (natM ml) := by
 obtain ⟨a, cap, rfl, hc, hk⟩ := h
 refine ⟨a, cap, by simp [natM], by simpa [natM] using hc, fun h0 => ?_⟩
 obtain ⟨g, o, rfl, hcell⟩ := hk (by intro h; apply h0; simp [natM, h])
 refine ⟨g, o, rfl, fun j y hj => ?_⟩
 simp only [natM, List.getElem?_map] at hj
 cases hx : ml[j]? with
 | none => rw [hx] at hj; cases hj
 | some x =>
  rw [hx] at hj
  simp only [Option.map_some, Option.some.injEq] at hj
  subst hj
  obtain ⟨c0, c1, c2⟩ := hcell j x hx
  have := natM_mem hr (List.mem_of_getElem? hx)
  exact ⟨by rw [c0]; simp only [Option.some.injEq, Value.int.injEq, true_and]; omega, c1, c2⟩
theorem natM_ok {m : Mg} {l : Ls} (hk : LsOk m l) (hr : l.mods.all (fun x => rngB x.1 2) = true) : MosOk (natM l.mods) := by
 refine ⟨by simpa [natM] using hk.mods, fun y hy => ?_⟩
 simp only [natM, List.mem_map] at hy
 obtain ⟨x, hx, rfl⟩ := hy
 have := natM_mem hr hx
 exact ⟨by show x.1.toNat ≤ _; omega, hk.modss x hx⟩
def secretE (m : Mg) : El := if m.sasl then .mk 2 3 true [] [.mk 0 4 false m.secret []] else .mk 2 0 false m.secret []
def answerK (m : Mg) : List El :=
 [.mk 0 10 false (sgB m.code.toNat) [], .mk 0 4 false m.matched [], .mk 0 4 false m.text []] ++ (if m.oid = [] then [] else [.mk 2 10 false m.oid []]) ++ (if m.has then [.mk 2 11 false m.value []] else [])
def opE (m : Mg) (l : Ls) : El :=
 if m.op = 0 then .mk 1 0 true [] [.mk 0 2 false (sgB m.ver.toNat) [], .mk 0 4 false m.dn [], secretE m]
 else if m.op = 2 then .mk 1 2 false [] []
 else if m.op = 3 then .mk 1 3 true [] (searchK m.dn m.scope.toNat m.deref.toNat m.size.toNat m.time.toNat m.types (fltE 20 l.filt).1 l.sel)
 else if m.op = 6 then .mk 1 6 true [] [.mk 0 4 false m.dn [], .mk 0 16 true [] ((natM l.mods).map modE)]
 else if m.op = 8 ∨ m.op = 4 then .mk 1 m.op true [] [.mk 0 4 false m.dn [], .mk 0 16 true [] (l.attrs.map attrE)]
 else if m.op = 10 then .mk 1 10 false m.dn []
 else if m.op = 12 then .mk 1 12 true [] ([.mk 0 4 false m.dn [], .mk 0 4 false m.newRdn [], .mk 0 1 false (blB m.delOld) []] ++ if m.hasSup then [.mk 2 0 false m.newSup []] else [])
 else if m.op = 14 then .mk 1 14 true [] [.mk 0 4 false m.dn [], .mk 0 16 true [] [.mk 0 4 false m.typ [], .mk 0 4 false m.value []]]
 else if m.op = 16 then .mk 1 16 false (sgB m.target.toNat) []
 else if m.op = 23 then .mk 1 23 true [] ([.mk 2 0 false m.oid []] ++ if m.has then [.mk 2 1 false m.value []] else [])
 else .mk 1 m.op true [] (answerK m)
theorem opE_head (m : Mg) (l : Ls) : (opE m l).cls = 1 ∧ (opE m l).tag = m.op := by
 unfold opE
 by_cases h0 : m.op = 0
 ·simp [h0, El.cls, El.tag]
 by_cases h2 : m.op = 2
 ·simp [h2, El.cls, El.tag]
 by_cases h3 : m.op = 3
 ·simp [h3, El.cls, El.tag]
 by_cases h6 : m.op = 6
 ·simp [h6, El.cls, El.tag]
 by_cases h8 : m.op = 8 ∨ m.op = 4
 ·rcases h8 with h | h <;> simp [h, El.cls, El.tag]
 by_cases h10 : m.op = 10
 ·simp [h10, El.cls, El.tag]
 by_cases h12 : m.op = 12
 ·simp [h12, El.cls, El.tag]
 by_cases h14 : m.op = 14
 ·simp [h14, El.cls, El.tag]
 by_cases h16 : m.op = 16
 ·simp [h16, El.cls, El.tag]
 by_cases h23 : m.op = 23
 ·simp [h23, El.cls, El.tag]
 simp only [h0, h2, h3, h6, h8, h10, h12, h14, h16, h23, if_false]
 exact ⟨rfl, rfl⟩
theorem callee3 (args : Array Value) (w : World) : (callFunc 117 args).run Tryz.prog w = .ok (.enter 117 args) w := by go_simp
theorem callee4 (args : Array Value) (w : World) : (callFunc 118 args).run Tryz.prog w = .ok (.enter 118 args) w := by go_simp
theorem callee6 (args : Array Value) (w : World) : (callFunc 124 args).run Tryz.prog w = .ok (.enter 124 args) w := by go_simp
theorem callee7 (args : Array Value) (w : World) : (callFunc 125 args).run Tryz.prog w = .ok (.enter 125 args) w := by go_simp
theorem callee8 (args : Array Value) (w : World) : (callFunc 126 args).run Tryz.prog w = .ok (.enter 126 args) w := by go_simp
theorem callee11 (args : Array Value) (w : World) : (callFunc 115 args).run Tryz.prog w = .ok (.enter 115 args) w := by go_simp
theorem sgB_small {n : Nat} (h : n ≤ 127) : sgB n = [UInt8.ofNat n] := by
 unfold sgB
 rw [if_pos (by omega)]
theorem valid_parts {m : Mg} {l : Ls} (h : validB m l = true) : kindB m l = true ∧ (0 ≤ m.id ∧ m.id ≤ 2147483647) ∧ (m.op ≠ 6 → l.mods = []) := by
 simp only [validB, Bool.and_eq_true, rngB, decide_eq_true_eq] at h
 obtain ⟨⟨⟨⟨h1, h2⟩, h3⟩, h4⟩, h5⟩ := h
 refine ⟨h1, h2, fun h6 => ?_⟩
 simp only [lensB, Bool.and_eq_true, keptM, h6, if_false, beq_iff_eq] at h4
 exact List.length_eq_zero_iff.1 h4.1.2.symm
theorem mods_seqM {m : Mg} {l : Ls} {w : World} (hm : MgM w m l) (hk : LsOk m l) (hr : l.mods.all (fun x => rngB x.1 2) = true) (w' : World) (hb : Below w.heap.size w w') :
  Calls Tryz.prog 121 #[m.mods] w' fun e w'' => (∃ v, e = .returned v ∧ SeqV ((natM l.mods).map modE) v w'') ∧ Below w'.heap.size w' w'' :=
 (mmods_any m.mods (natM l.mods) w' ((hm.mods.below hb).nat hr) (natM_ok hk hr)).mono fun _ _ ⟨⟨u, h, hu⟩, hb⟩ => ⟨⟨_, h, u, rfl, hu.mono fun _ _ _ => trivial⟩, hb⟩
theorem attrs_seqM {m : Mg} {l : Ls} {w : World} (hm : MgM w m l) (hk : LsOk m l) (w' : World) (hb : Below w.heap.size w w') :
  Calls Tryz.prog 122 #[m.attrs] w' fun e w'' => (∃ v, e = .returned v ∧ SeqV (l.attrs.map attrE) v w'') ∧ Below w'.heap.size w' w'' :=
 (mattrs_any m.attrs l.attrs w' (hm.attrs.below hb) hk.attrs).mono fun _ _ ⟨⟨u, h, hu⟩, hb⟩ => ⟨⟨_, h, u, rfl, hu.mono fun _ _ _ => trivial⟩, hb⟩
theorem sm_attrsE {m : Mg} {l : Ls} (hk : LsOk m l) : SmE (.mk 0 16 true [] (l.attrs.map attrE)) := by
 have h1 := sm_attrs l.attrs hk.attrs.2
 have h2 := hk.attrs.1
 simp only [SmE, List.length_map]
 exact ⟨by simp, by omega, h1⟩
theorem sm_modsE {m : Mg} {l : Ls} (hk : LsOk m l) (hr : l.mods.all (fun x => rngB x.1 2) = true) : SmE (.mk 0 16 true [] ((natM l.mods).map modE)) := by
 have h0 := natM_ok hk hr
 have h1 := sm_mods (natM l.mods) h0.2
 have h2 := h0.1
 simp only [SmE, List.length_map]
 exact ⟨by simp, by omega, h1⟩
def opx (w : World) (m : Mg) (l : Ls) : OpX := ⟨w.heap.size, m.dn, m.typ, m.value, m.mods, m.attrs, (natM l.mods).map modE, l.attrs.map attrE⟩
theorem sm_answer {m : Mg} {l : Ls} (hk : LsOk m l) (hc : m.code.toNat ≤ 2147483647) : SmL (answerK m) ∧ (answerK m).length ≤ 5 := by
 have h1 := (sgB_len m.code.toNat).2
 have h2 := hk.matched
 have h3 := hk.text
 have h4 := hk.oid
 have h5 := hk.value
 unfold answerK
 constructor
 ·refine sm_app _ _ (sm_app _ _ ?_ ?_) ?_
  ·simp only [SmL, SmE]; simp; omega
  ·split <;> simp only [SmL, SmE] <;> simp; omega
  ·split <;> simp only [SmL, SmE] <;> simp; omega
 ·split <;> split <;> simp
theorem answer_any (m : Mg) (l : Ls) (hk : LsOk m l) (h0 : 0 ≤ m.code) (h1 : m.code ≤ 2147483647) (w : World) :
  Calls Tryz.prog 127 #[.agg m.row] w fun e w' => (∃ v a n c, e = .returned v ∧ v = .slice a n c ∧ KidsAt (fun _ => True) w' v (answerK m)) ∧ Below w.heap.size w w' := by
 have hc : m.code = (m.code.toNat : Int) := by omega
 have fin : ∀ (K : List El), answerK m = K → (Calls Tryz.prog 127 #[.agg m.row] w fun e w' => (∃ v, e = .returned v ∧ OwnK w.heap.size w' v K) ∧ Below w.heap.size w w') → Calls Tryz.prog 127 #[.agg m.row] w fun e w' => (∃ v a n c, e = .returned v ∧ v = .slice a n c ∧ KidsAt (fun _ => True) w' v (answerK m)) ∧ Below w.heap.size w w' := by
  intro K hK h
  rw [hK]
  refine h.mono ?_
  rintro e w' ⟨⟨v, rfl, ho⟩, hb⟩
  obtain ⟨a, c, hv⟩ := ho.shape
  exact ⟨⟨v, a, _, c, rfl, hv, ho.kids⟩, hb⟩
 have c24 : m.row[24]? = some (.int .i64 (m.code.toNat : Int)) := by rw [← hc]; rfl
 have hval := hk.value
 have hoid := hk.oid
 by_cases ho : m.oid = []
 ·have c21 : m.row[21]? = some (.string ⟨#[]⟩) := by
   have : m.row[21]? = some (.string ⟨m.oid.toArray⟩) := rfl
   rw [this, ho]
  cases hh : m.has
  ·exact fin _ (by simp [answerK, ho, hh]) (answer_nn m.row m.code.toNat m.matched m.text w c24 rfl rfl c21 (by rw [← hh]; rfl) (by omega))
  ·exact fin _ (by simp [answerK, ho, hh]) (answer_nv m.row m.code.toNat m.matched m.text m.value w c24 rfl rfl c21 (by rw [← hh]; rfl) rfl (by omega) (by omega))
 ·cases hh : m.has
  ·exact fin _ (by simp [answerK, ho, hh]) (answer_on m.row m.code.toNat m.matched m.text m.oid w c24 rfl rfl rfl (by rw [← hh]; rfl) (by omega) ho (by omega))
  ·exact fin _ (by simp [answerK, ho, hh]) (answer_ov m.row m.code.toNat m.matched m.text m.oid m.value w c24 rfl rfl rfl (by rw [← hh]; rfl) rfl (by omega) ho (by omega) (by omega))
end Go.Proofs.YthjaiigijbjloaaGreatDoor
