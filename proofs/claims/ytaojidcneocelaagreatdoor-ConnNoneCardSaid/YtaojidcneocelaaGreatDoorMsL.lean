/- message.Valid. (Written by genmsg.py.) -/
import Derived.Test.YtaojidcneocelaaGreatDoorMsK
namespace Go.Proofs.YtaojidcneocelaaGreatDoor
open Go.RowKit Go.Lib

set_option maxRecDepth 100000 in
theorem indexFunc_nil (f : Value) (w : World) : Calls Tryz.prog 91 #[.slice none 0 0, f] w fun e w' => e = .returned (.int .i64 (-1)) ∧ w' = w := by
  go_enter Tryz.func91, Tryz.ntmps91
  go_wp2_with fail
  refine wp_loop_rounds 1 ?_
  rw [rounds_succ]
  go_wp2_with fail
  go_ret
  exact ⟨rfl, rfl⟩
set_option maxRecDepth 100000 in
theorem containsFunc_nil (f : Value) (w : World) : Calls Tryz.prog 60 #[.slice none 0 0, f] w fun e w' => e = .returned (.bool false) ∧ w' = w := by
  have k := indexFunc_nil f w
  go_enter Tryz.func60, Tryz.ntmps60
  go_wp2_with fail
  refine Calls.mono (show Calls _ _ _ _ _ from k) ?_
  rintro e w1 ⟨rfl, rfl⟩
  go_wp2_with fail
  go_ret
  exact ⟨rfl, rfl⟩
set_option maxRecDepth 100000 in
set_option maxHeartbeats 4000000 in
theorem valid_of (m : Mg) (hb : ∀ w : World, Calls Tryz.prog 57 #[.agg m.row] w fun e w' => e = .returned (.tuple #[.agg m.row, .bool true]) ∧ Below w.heap.size w w') (h0 : 0 ≤ m.id) (h1 : m.id ≤ 2147483647)
    (hf : m.filt = .slice none 0 0) (hs : m.sel = .slice none 0 0) (hm : m.mods = .slice none 0 0) (ha : m.attrs = .slice none 0 0) (hc : m.ctl = .slice none 0 0) (w : World) :
    Calls Tryz.prog 41 #[.agg m.row] w fun e w' => e = .returned (.bool true) ∧ Below w.heap.size w w' := by
  have kp := plain_any m
  have ke := equal_pv m
  obtain ⟨A, hA⟩ : ∃ A, m.row = A := ⟨_, rfl⟩
  obtain ⟨P, hP⟩ : ∃ P, m.pv = P := ⟨_, rfl⟩
  rw [hA] at hb kp ⊢
  rw [hP] at kp ke
  have hA0 : A[0]? = some (.int .i64 m.id) := by rw [← hA]; rfl
  have hA11 : A[11]? = some (.slice none 0 0) := by rw [← hA, ← hf]; rfl
  have hA12 : A[12]? = some (.slice none 0 0) := by rw [← hA, ← hs]; rfl
  have hA13 : A[13]? = some (.slice none 0 0) := by rw [← hA, ← hm]; rfl
  have hA14 : A[14]? = some (.slice none 0 0) := by rw [← hA, ← ha]; rfl
  have hA27 : A[27]? = some (.slice none 0 0) := by rw [← hA, ← hc]; rfl
  have hA1 : A.all (·.oneCell') = true := by
    rw [← hA]
    simp [Mg.row, Value.oneCell', hf, hs, hm, ha, hc]
  have hA2 : A.size = 28 := by rw [← hA]; rfl
  have HB := fun w => Lib.hid (hb w)
  have HP := fun w => Lib.hid (kp w)
  have HE := Lib.hid (fun w => ke w)
  have G0 := Lib.hid hA0
  have G11 := Lib.hid hA11
  have G12 := Lib.hid hA12
  have G13 := Lib.hid hA13
  have G14 := Lib.hid hA14
  have G27 := Lib.hid hA27
  have HA1 := Lib.hid hA1
  have HA2 := Lib.hid hA2
  clear hb kp ke hA hP hA0 hA11 hA12 hA13 hA14 hA27 hA1 hA2 hf hs hm ha hc
  have b1 : Below w.heap.size w (w.alloc (.cells A 32)) := (Below.refl _ _).alloc (Nat.le_refl _) _
  have m1 : (w.alloc (.cells A 32)).heap[w.heap.size]? = some (.cells A 32 (0, 0)) := alloc_at _ _ _ rfl
  go_enter Tryz.func41, Tryz.ntmps41
  go_upto_region 1 with fail
  generalize w.alloc (.cells A 32) = w1 at b1 m1 ⊢
  have kb := (HB w1).out
  clear HB
  go_wp2_with (refine wpList_loadRow rfl 32 (.tmp 1) rfl w.heap.size 32 _ (0, 0) (by rfl) m1 _ Tryz.underlying32 rfl (by rw [HA2.out]; rfl) ?_)
  refine Calls.mono (show Calls _ _ _ _ _ from kb) ?_
  rintro e w2 ⟨rfl, hb2⟩
  have m2 := (hb2.block _ (Array.getElem?_eq_some_iff.1 m1).1).trans m1
  have b2 := b1.trans (hb2.mono b1.size)
  clear kb hb2 m1 b1
  have x3 : (w2.alloc (.cells #[.int .i64 0, .int .i64 0, .string ⟨#[]⟩, .int .i64 0, .bool false, .string ⟨#[]⟩, .int .i64 0, .int .i64 0, .int .i64 0, .int .i64 0, .bool false, .slice none 0 0, .slice none 0 0, .slice none 0 0, .slice none 0 0, .string ⟨#[]⟩, .string ⟨#[]⟩, .bool false, .bool false, .string ⟨#[]⟩, .string ⟨#[]⟩, .string ⟨#[]⟩, .bool false, .int .i64 0, .int .i64 0, .string ⟨#[]⟩, .string ⟨#[]⟩, .slice none 0 0] 32)).heap[w2.heap.size]? = some (.cells #[.int .i64 0, .int .i64 0, .string ⟨#[]⟩, .int .i64 0, .bool false, .string ⟨#[]⟩, .int .i64 0, .int .i64 0, .int .i64 0, .int .i64 0, .bool false, .slice none 0 0, .slice none 0 0, .slice none 0 0, .slice none 0 0, .string ⟨#[]⟩, .string ⟨#[]⟩, .bool false, .bool false, .string ⟨#[]⟩, .string ⟨#[]⟩, .string ⟨#[]⟩, .bool false, .int .i64 0, .int .i64 0, .string ⟨#[]⟩, .string ⟨#[]⟩, .slice none 0 0] 32 (0, 0)) := alloc_at _ _ _ rfl
  have b3 := b2.trans ((Below.refl w2.heap.size w2).alloc (Nat.le_refl _) (.cells #[.int .i64 0, .int .i64 0, .string ⟨#[]⟩, .int .i64 0, .bool false, .string ⟨#[]⟩, .int .i64 0, .int .i64 0, .int .i64 0, .int .i64 0, .bool false, .slice none 0 0, .slice none 0 0, .slice none 0 0, .slice none 0 0, .string ⟨#[]⟩, .string ⟨#[]⟩, .bool false, .bool false, .string ⟨#[]⟩, .string ⟨#[]⟩, .string ⟨#[]⟩, .bool false, .int .i64 0, .int .i64 0, .string ⟨#[]⟩, .string ⟨#[]⟩, .slice none 0 0] 32) |>.mono b2.size)
  have m3 := (Lib.alloc_old w2 (.cells #[.int .i64 0, .int .i64 0, .string ⟨#[]⟩, .int .i64 0, .bool false, .string ⟨#[]⟩, .int .i64 0, .int .i64 0, .int .i64 0, .int .i64 0, .bool false, .slice none 0 0, .slice none 0 0, .slice none 0 0, .slice none 0 0, .string ⟨#[]⟩, .string ⟨#[]⟩, .bool false, .bool false, .string ⟨#[]⟩, .string ⟨#[]⟩, .string ⟨#[]⟩, .bool false, .int .i64 0, .int .i64 0, .string ⟨#[]⟩, .string ⟨#[]⟩, .slice none 0 0] 32) w.heap.size (Array.getElem?_eq_some_iff.1 m2).1).trans m2
  have hg : w.heap.size < w2.heap.size := (Array.getElem?_eq_some_iff.1 m2).1
  have b4 := below_row b3 (g := w2.heap.size) (by omega) A
  have m4 := (setRow_other (w2.alloc (.cells #[.int .i64 0, .int .i64 0, .string ⟨#[]⟩, .int .i64 0, .bool false, .string ⟨#[]⟩, .int .i64 0, .int .i64 0, .int .i64 0, .int .i64 0, .bool false, .slice none 0 0, .slice none 0 0, .slice none 0 0, .slice none 0 0, .string ⟨#[]⟩, .string ⟨#[]⟩, .bool false, .bool false, .string ⟨#[]⟩, .string ⟨#[]⟩, .string ⟨#[]⟩, .bool false, .int .i64 0, .int .i64 0, .string ⟨#[]⟩, .string ⟨#[]⟩, .slice none 0 0] 32)) w2.heap.size w.heap.size A (by omega)).trans m3
  have x4 := setRow_heap (w2.alloc (.cells #[.int .i64 0, .int .i64 0, .string ⟨#[]⟩, .int .i64 0, .bool false, .string ⟨#[]⟩, .int .i64 0, .int .i64 0, .int .i64 0, .int .i64 0, .bool false, .slice none 0 0, .slice none 0 0, .slice none 0 0, .slice none 0 0, .string ⟨#[]⟩, .string ⟨#[]⟩, .bool false, .bool false, .string ⟨#[]⟩, .string ⟨#[]⟩, .string ⟨#[]⟩, .bool false, .int .i64 0, .int .i64 0, .string ⟨#[]⟩, .string ⟨#[]⟩, .slice none 0 0] 32)) w2.heap.size _ A _ _ x3
  have X3 := Lib.hid x3
  clear b2 m2 b3 m3 x3
  go_wp2_with (refine wpList_storeRow rfl 32 (.tmp 3) (.tmp 8) rfl w2.heap.size 32 _ A (by rfl) (by rfl) X3.out (by rw [HA2.out]; rfl) (by rw [HA2.out]; rfl) HA1.out ?_)
  have x4' := x4
  generalize (w2.alloc (.cells #[.int .i64 0, .int .i64 0, .string ⟨#[]⟩, .int .i64 0, .bool false, .string ⟨#[]⟩, .int .i64 0, .int .i64 0, .int .i64 0, .int .i64 0, .bool false, .slice none 0 0, .slice none 0 0, .slice none 0 0, .slice none 0 0, .string ⟨#[]⟩, .string ⟨#[]⟩, .bool false, .bool false, .string ⟨#[]⟩, .string ⟨#[]⟩, .string ⟨#[]⟩, .bool false, .int .i64 0, .int .i64 0, .string ⟨#[]⟩, .string ⟨#[]⟩, .slice none 0 0] 32)).setRow w2.heap.size A = w4 at b4 m4 x4 ⊢
  clear x4' X3
  generalize w2.heap.size = g at x4 hg ⊢
  refine wp_region_held (S := fun w' => w'.heap[w.heap.size]? = some (.cells A 32 (0, 0)) ∧ w'.heap[g]? = some (.cells A 32 (0, 0))) (by kernel_rfl) ?_
  have T : w4.drew.heap[w.heap.size]? = some (.cells A 32 (0, 0)) ∧ w4.drew.heap[g]? = some (.cells A 32 (0, 0)) := ⟨m4, x4⟩
  have D : Below w.heap.size w w4.drew := b4.drew
  change wpAnyH _ _ _ _ _ _ _ _ w4.drew
  clear m4 x4 b4
  generalize w4.drew = w5 at T D ⊢
  refine anyH_take 0 (.bool true) rfl (by kernel_rfl) (by kernel_rfl) (by kernel_rfl) (fun _ _ _ h => h) (by rfl) (fun w' hS => by go_simp) T (fun K hK => ?_); go_simp; refine hK _ _ ?_; clear hK K
  refine anyH_take 1 (.bool false) rfl (by kernel_rfl) (by kernel_rfl) (by kernel_rfl) (fun _ _ _ h => h) (by rfl) (fun w' hS => by go_simp) T (fun K hK => ?_); go_simp; refine hK _ _ ?_; clear hK K
  refine anyH_take 2 (.bool false) rfl (by kernel_rfl) (by kernel_rfl) (by kernel_rfl) (fun _ _ _ h => h) (by rfl) (fun w' hS => by go_simp) T (fun K hK => ?_); go_simp; refine hK _ _ ?_; clear hK K
  refine anyH_take 3 (.pointer (some ⟨w.heap.size, 0, none⟩)) rfl (by kernel_rfl) (by kernel_rfl) (by kernel_rfl) (fun _ _ _ h => h) (by rfl) (fun w' hS => by go_simp) T (fun K hK => ?_); go_simp; refine hK _ _ ?_; clear hK K
  refine anyH_take 4 (.int .i64 m.id) rfl (by kernel_rfl) (by kernel_rfl) (by kernel_rfl) (fun _ _ _ h => h) (by rfl) (fun w' hS => by have q := (Lib.cell_of_heap hS.1 0).trans G0.out; go_simp) T (fun K hK => ?_); go_simp; refine hK _ _ ?_; clear hK K
  refine anyH_one 5 (by kernel_rfl) rfl (by rfl) (fun K hK => ?_); go_simp; go_wp2_with fail
  refine Calls.mono (show Calls _ _ _ _ _ from inRange_ok m.id 2147483647 h0 h1 w5) ?_
  rintro e w6 ⟨rfl, hw6⟩
  rw [hw6]
  clear hw6
  refine hK _ _ T ?_; clear hK K
  refine anyH_take 6 (.bool false) rfl (by kernel_rfl) (by kernel_rfl) (by kernel_rfl) (fun _ _ _ h => h) (by rfl) (fun w' hS => by go_simp) T (fun K hK => ?_); go_simp; refine hK _ _ ?_; clear hK K
  refine anyH_take 7 (.bool false) rfl (by kernel_rfl) (by kernel_rfl) (by kernel_rfl) (fun _ _ _ h => h) (by rfl) (fun w' hS => by go_simp) T (fun K hK => ?_); go_simp; refine hK _ _ ?_; clear hK K
  refine anyH_take 8 (.bool false) rfl (by kernel_rfl) (by kernel_rfl) (by kernel_rfl) (fun _ _ _ h => h) (by rfl) (fun w' hS => by go_simp) T (fun K hK => ?_); go_simp; refine hK _ _ ?_; clear hK K
  refine anyH_take 9 (.agg A) rfl (by kernel_rfl) (by kernel_rfl) (by kernel_rfl) (fun _ _ _ h => h) (by rfl) (fun w' hS => by exact exec_loadRow 32 (.tmp 3) rfl g 32 _ (0, 0) (by rfl) hS.2 _ Tryz.underlying32 rfl (by rw [HA2.out]; rfl)) T (fun K hK => ?_); go_simp; refine hK _ _ ?_; clear hK K
  refine anyH_take 11 (.agg A) rfl (by kernel_rfl) (by kernel_rfl) (by kernel_rfl) (fun _ _ _ h => h) (by rfl) (fun w' hS => by exact exec_loadRow 32 (.tmp 1) rfl w.heap.size 32 _ (0, 0) (by rfl) hS.1 _ Tryz.underlying32 rfl (by rw [HA2.out]; rfl)) T (fun K hK => ?_); go_simp; refine hK _ _ ?_; clear hK K
  have kp := (HP w5).out
  refine anyH_one 10 (by kernel_rfl) rfl (by rfl) (fun K hK => ?_); go_simp; go_wp2_with fail
  refine Calls.mono (show Calls _ _ _ _ _ from kp) ?_
  rintro e w7 ⟨rfl, hb⟩
  have T9 := (⟨(hb.block _ (Array.getElem?_eq_some_iff.1 T.1).1).trans T.1, (hb.block _ (Array.getElem?_eq_some_iff.1 T.2).1).trans T.2⟩ : w7.heap[w.heap.size]? = some (.cells A 32 (0, 0)) ∧ w7.heap[g]? = some (.cells A 32 (0, 0)))
  have D9 := D.trans (hb.mono D.size)
  clear kp hb T D
  have T := T9
  have D := D9
  clear T9 D9
  refine hK _ _ T ?_; clear hK K
  have kp := (HP w7).out
  refine anyH_one 12 (by kernel_rfl) rfl (by rfl) (fun K hK => ?_); go_simp; go_wp2_with fail
  refine Calls.mono (show Calls _ _ _ _ _ from kp) ?_
  rintro e w8 ⟨rfl, hb⟩
  have T9 := (⟨(hb.block _ (Array.getElem?_eq_some_iff.1 T.1).1).trans T.1, (hb.block _ (Array.getElem?_eq_some_iff.1 T.2).1).trans T.2⟩ : w8.heap[w.heap.size]? = some (.cells A 32 (0, 0)) ∧ w8.heap[g]? = some (.cells A 32 (0, 0)))
  have D9 := D.trans (hb.mono D.size)
  clear kp hb T D
  have T := T9
  have D := D9
  clear T9 D9
  refine hK _ _ T ?_; clear hK K
  have hgt : Tryz.prog.eqGuardType Tryz.prog.depth 93 = false := by kernel_rfl
  have HG := Lib.hid hgt
  clear hgt
  refine anyH_take 13 (.bool false) rfl (by kernel_rfl) (by kernel_rfl) (by kernel_rfl) (fun _ _ _ h => h) (by rfl) (fun w' hS => by have g := HG.out; go_simp; rw [show Sem.run Tryz.prog (Op.equalIn 10000 93 (.agg P) (.agg P)) w' = .ok true w' from HE.out w']; rfl) T (fun K hK => ?_); go_simp; refine hK _ _ ?_; clear hK K
  refine anyH_take 14 (.bool false) rfl (by kernel_rfl) (by kernel_rfl) (by kernel_rfl) (fun _ _ _ h => h) (by rfl) (fun w' hS => by go_simp) T (fun K hK => ?_); go_simp; refine hK _ _ ?_; clear hK K
  refine anyH_take 15 (.bool false) rfl (by kernel_rfl) (by kernel_rfl) (by kernel_rfl) (fun _ _ _ h => h) (by rfl) (fun w' hS => by go_simp) T (fun K hK => ?_); go_simp; refine hK _ _ ?_; clear hK K
  refine wpAnyH_done (by kernel_rfl) ?_ _
  simp only [Exit.then]
  refine ‹∀ (a : Act) (w : World), Code.wp _ _ _ a w → _› _ _ ?_
  have p11 : w8.cell? ⟨w.heap.size, 11, none⟩ = some (.slice none 0 0) := (Lib.cell_of_heap T.1 11).trans G11.out
  have p12 : w8.cell? ⟨w.heap.size, 12, none⟩ = some (.slice none 0 0) := (Lib.cell_of_heap T.1 12).trans G12.out
  have p13 : w8.cell? ⟨w.heap.size, 13, none⟩ = some (.slice none 0 0) := (Lib.cell_of_heap T.1 13).trans G13.out
  have p14 : w8.cell? ⟨w.heap.size, 14, none⟩ = some (.slice none 0 0) := (Lib.cell_of_heap T.1 14).trans G14.out
  have p27 : w8.cell? ⟨w.heap.size, 27, none⟩ = some (.slice none 0 0) := (Lib.cell_of_heap T.1 27).trans G27.out
  have r11 : w8.cell? ⟨g, 11, none⟩ = some (.slice none 0 0) := (Lib.cell_of_heap T.2 11).trans G11.out
  have r12 : w8.cell? ⟨g, 12, none⟩ = some (.slice none 0 0) := (Lib.cell_of_heap T.2 12).trans G12.out
  have r13 : w8.cell? ⟨g, 13, none⟩ = some (.slice none 0 0) := (Lib.cell_of_heap T.2 13).trans G13.out
  have r14 : w8.cell? ⟨g, 14, none⟩ = some (.slice none 0 0) := (Lib.cell_of_heap T.2 14).trans G14.out
  have kc := containsFunc_nil (.func (.func 61) #[] #[]) w8
  clear T
  go_wp2_with fail
  refine Calls.mono (show Calls _ _ _ _ _ from kc) ?_
  rintro e w9 ⟨rfl, rfl⟩
  go_wp2_with fail
  go_ret
  exact ⟨rfl, D⟩
end Go.Proofs.YtaojidcneocelaaGreatDoor
