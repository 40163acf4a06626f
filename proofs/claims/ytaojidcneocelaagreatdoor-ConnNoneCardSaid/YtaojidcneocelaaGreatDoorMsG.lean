/- The fields of a message; bare at a Bind. (Written by genmsg.py.) -/
import Derived.Test.YtaojidcneocelaaGreatDoorMsF
namespace Go.Proofs.YtaojidcneocelaaGreatDoor
open Go.RowKit Go.Lib

structure Mg where
  id : Int := 0
  op : Int := 0
  dn : List UInt8 := []
  ver : Int := 0
  sasl : Bool := false
  secret : List UInt8 := []
  scope : Int := 0
  deref : Int := 0
  size : Int := 0
  time : Int := 0
  types : Bool := false
  filt : Value := .slice none 0 0
  sel : Value := .slice none 0 0
  mods : Value := .slice none 0 0
  attrs : Value := .slice none 0 0
  newRdn : List UInt8 := []
  newSup : List UInt8 := []
  delOld : Bool := false
  hasSup : Bool := false
  typ : List UInt8 := []
  value : List UInt8 := []
  oid : List UInt8 := []
  has : Bool := false
  target : Int := 0
  code : Int := 0
  matched : List UInt8 := []
  text : List UInt8 := []
  ctl : Value := .slice none 0 0
def Mg.row (m : Mg) : Array Value := #[.int .i64 m.id, .int .i64 m.op, .string ⟨m.dn.toArray⟩, .int .i64 m.ver, .bool m.sasl, .string ⟨m.secret.toArray⟩, .int .i64 m.scope, .int .i64 m.deref, .int .i64 m.size, .int .i64 m.time, .bool m.types, m.filt, m.sel, m.mods, m.attrs, .string ⟨m.newRdn.toArray⟩, .string ⟨m.newSup.toArray⟩, .bool m.delOld, .bool m.hasSup, .string ⟨m.typ.toArray⟩, .string ⟨m.value.toArray⟩, .string ⟨m.oid.toArray⟩, .bool m.has, .int .i64 m.target, .int .i64 m.code, .string ⟨m.matched.toArray⟩, .string ⟨m.text.toArray⟩, m.ctl]
set_option maxRecDepth 100000 in
set_option maxHeartbeats 4000000 in
theorem bare_bind (n v : Int) (dn secret : List UInt8) (sasl : Bool) (w : World) (h0 : 1 ≤ v) (h1 : v ≤ 127) :
    Calls Tryz.prog 57 #[.agg (Mg.row { id := n, op := 0, ver := v, dn := dn, sasl := sasl, secret := secret })] w fun e w' => e = .returned (.tuple #[.agg (Mg.row { id := n, op := 0, ver := v, dn := dn, sasl := sasl, secret := secret }), .bool true]) ∧ Below w.heap.size w w' := by
  obtain ⟨A, hA⟩ : ∃ A, (Mg.row { id := n, op := 0, ver := v, dn := dn, sasl := sasl, secret := secret }) = A := ⟨_, rfl⟩
  rw [hA]
  have HA := Lib.hid hA
  clear hA
  have b1 : Below w.heap.size w ((w.alloc (.cells A 32)).alloc (.cells #[.int .i64 0, .int .i64 0, .string ⟨#[]⟩, .int .i64 0, .bool false, .string ⟨#[]⟩, .int .i64 0, .int .i64 0, .int .i64 0, .int .i64 0, .bool false, .slice none 0 0, .slice none 0 0, .slice none 0 0, .slice none 0 0, .string ⟨#[]⟩, .string ⟨#[]⟩, .bool false, .bool false, .string ⟨#[]⟩, .string ⟨#[]⟩, .string ⟨#[]⟩, .bool false, .int .i64 0, .int .i64 0, .string ⟨#[]⟩, .string ⟨#[]⟩, .slice none 0 0] 32)) := ((Below.refl _ _).alloc (Nat.le_refl _) _).alloc (by simp) _
  have m1 : ((w.alloc (.cells A 32)).alloc (.cells #[.int .i64 0, .int .i64 0, .string ⟨#[]⟩, .int .i64 0, .bool false, .string ⟨#[]⟩, .int .i64 0, .int .i64 0, .int .i64 0, .int .i64 0, .bool false, .slice none 0 0, .slice none 0 0, .slice none 0 0, .slice none 0 0, .string ⟨#[]⟩, .string ⟨#[]⟩, .bool false, .bool false, .string ⟨#[]⟩, .string ⟨#[]⟩, .string ⟨#[]⟩, .bool false, .int .i64 0, .int .i64 0, .string ⟨#[]⟩, .string ⟨#[]⟩, .slice none 0 0] 32)).heap[w.heap.size]? = some (.cells A 32 (0, 0)) := (Lib.alloc_old _ _ _ (by simp)).trans (alloc_at _ _ _ rfl)
  have t1 : ((w.alloc (.cells A 32)).alloc (.cells #[.int .i64 0, .int .i64 0, .string ⟨#[]⟩, .int .i64 0, .bool false, .string ⟨#[]⟩, .int .i64 0, .int .i64 0, .int .i64 0, .int .i64 0, .bool false, .slice none 0 0, .slice none 0 0, .slice none 0 0, .slice none 0 0, .string ⟨#[]⟩, .string ⟨#[]⟩, .bool false, .bool false, .string ⟨#[]⟩, .string ⟨#[]⟩, .string ⟨#[]⟩, .bool false, .int .i64 0, .int .i64 0, .string ⟨#[]⟩, .string ⟨#[]⟩, .slice none 0 0] 32)).heap[w.heap.size + 1]? = some (.cells (Mg.row {}) 32 (0, 0)) := alloc_at _ _ _ (by simp)
  have hsz : ((w.alloc (.cells A 32)).alloc (.cells #[.int .i64 0, .int .i64 0, .string ⟨#[]⟩, .int .i64 0, .bool false, .string ⟨#[]⟩, .int .i64 0, .int .i64 0, .int .i64 0, .int .i64 0, .bool false, .slice none 0 0, .slice none 0 0, .slice none 0 0, .slice none 0 0, .string ⟨#[]⟩, .string ⟨#[]⟩, .bool false, .bool false, .string ⟨#[]⟩, .string ⟨#[]⟩, .string ⟨#[]⟩, .bool false, .int .i64 0, .int .i64 0, .string ⟨#[]⟩, .string ⟨#[]⟩, .slice none 0 0] 32)).heap.size = w.heap.size + 2 := by simp
  have HS := Lib.hid hsz
  clear hsz
  go_enter Tryz.func57, Tryz.ntmps57
  refine wp_seq ?_
  refine wp_region_list ?_
  refine wpList_plain rfl fun K hK => ?_
  go_simp
  refine hK _ _ ?_; clear hK K
  refine wpList_plain rfl fun K hK => ?_
  go_simp
  refine hK _ _ ?_; clear hK K
  generalize ((w.alloc (.cells A 32)).alloc (.cells #[.int .i64 0, .int .i64 0, .string ⟨#[]⟩, .int .i64 0, .bool false, .string ⟨#[]⟩, .int .i64 0, .int .i64 0, .int .i64 0, .int .i64 0, .bool false, .slice none 0 0, .slice none 0 0, .slice none 0 0, .slice none 0 0, .string ⟨#[]⟩, .string ⟨#[]⟩, .bool false, .bool false, .string ⟨#[]⟩, .string ⟨#[]⟩, .string ⟨#[]⟩, .bool false, .int .i64 0, .int .i64 0, .string ⟨#[]⟩, .string ⟨#[]⟩, .slice none 0 0] 32)) = w1 at b1 m1 t1 HS ⊢
  have q0 : w1.cell? ⟨w.heap.size, 0, none⟩ = some (.int .i64 n) := (Lib.cell_of_heap m1 0).trans (by rw [← HA.out]; rfl)
  have q1 : w1.cell? ⟨w.heap.size, 1, none⟩ = some (.int .i64 0) := (Lib.cell_of_heap m1 1).trans (by rw [← HA.out]; rfl)
  have q27 : w1.cell? ⟨w.heap.size, 27, none⟩ = some (.slice none 0 0) := (Lib.cell_of_heap m1 27).trans (by rw [← HA.out]; rfl)
  obtain ⟨X, hX⟩ : ∃ X, Mg.row { id := n, op := 0 } = X := ⟨_, rfl⟩
  have hX1 : (#[.int .i64 n, .int .i64 0, .string ⟨#[]⟩, .int .i64 0, .bool false, .string ⟨#[]⟩, .int .i64 0, .int .i64 0, .int .i64 0, .int .i64 0, .bool false, .slice none 0 0, .slice none 0 0, .slice none 0 0, .slice none 0 0, .string ⟨#[]⟩, .string ⟨#[]⟩, .bool false, .bool false, .string ⟨#[]⟩, .string ⟨#[]⟩, .string ⟨#[]⟩, .bool false, .int .i64 0, .int .i64 0, .string ⟨#[]⟩, .string ⟨#[]⟩, .slice none 0 0] : Array Value) = X := hX
  have hX2 : X.all (·.oneCell') = true := by rw [← hX]; simp [Mg.row, Value.oneCell']
  have hX3 : X.size = 28 := by rw [← hX]; rfl
  have HX := Lib.hid hX
  have HX1 := Lib.hid hX1
  have HX2 := Lib.hid hX2
  have HX3 := Lib.hid hX3
  clear hX hX1 hX2 hX3
  go_upto_region 1 with fail
  refine wp_region_list ?_
  refine wpList_plain rfl fun K hK => ?_
  go_simp
  refine hK _ _ ?_; clear hK K
  refine wpList_plain rfl fun K hK => ?_
  go_simp
  refine hK _ _ ?_; clear hK K
  refine wpList_plain rfl fun K hK => ?_
  go_simp
  refine hK _ _ ?_; clear hK K
  refine wpList_plain rfl fun K hK => ?_
  go_simp
  refine hK _ _ ?_; clear hK K
  refine wpList_plain rfl fun K hK => ?_
  go_simp
  refine hK _ _ ?_; clear hK K
  refine wpList_plain rfl fun K hK => ?_
  go_simp
  refine hK _ _ ?_; clear hK K
  refine wpList_plain rfl fun K hK => ?_
  go_simp
  rw [HX1.out]
  refine hK _ _ ?_; clear hK K
  clear q0 q27
  refine wpList_plain rfl fun K hK => ?_
  go_simp
  refine hK _ _ ?_; clear hK K
  have b2 := b1.trans ((Below.refl w1.heap.size w1).alloc (Nat.le_refl _) (.cells #[.int .i64 0, .int .i64 0, .string ⟨#[]⟩, .int .i64 0, .bool false, .string ⟨#[]⟩, .int .i64 0, .int .i64 0, .int .i64 0, .int .i64 0, .bool false, .slice none 0 0, .slice none 0 0, .slice none 0 0, .slice none 0 0, .string ⟨#[]⟩, .string ⟨#[]⟩, .bool false, .bool false, .string ⟨#[]⟩, .string ⟨#[]⟩, .string ⟨#[]⟩, .bool false, .int .i64 0, .int .i64 0, .string ⟨#[]⟩, .string ⟨#[]⟩, .slice none 0 0] 32) |>.mono b1.size)
  have m2 := (Lib.alloc_old w1 (.cells #[.int .i64 0, .int .i64 0, .string ⟨#[]⟩, .int .i64 0, .bool false, .string ⟨#[]⟩, .int .i64 0, .int .i64 0, .int .i64 0, .int .i64 0, .bool false, .slice none 0 0, .slice none 0 0, .slice none 0 0, .slice none 0 0, .string ⟨#[]⟩, .string ⟨#[]⟩, .bool false, .bool false, .string ⟨#[]⟩, .string ⟨#[]⟩, .string ⟨#[]⟩, .bool false, .int .i64 0, .int .i64 0, .string ⟨#[]⟩, .string ⟨#[]⟩, .slice none 0 0] 32) w.heap.size (Array.getElem?_eq_some_iff.1 m1).1).trans m1
  have t2 := (Lib.alloc_old w1 (.cells #[.int .i64 0, .int .i64 0, .string ⟨#[]⟩, .int .i64 0, .bool false, .string ⟨#[]⟩, .int .i64 0, .int .i64 0, .int .i64 0, .int .i64 0, .bool false, .slice none 0 0, .slice none 0 0, .slice none 0 0, .slice none 0 0, .string ⟨#[]⟩, .string ⟨#[]⟩, .bool false, .bool false, .string ⟨#[]⟩, .string ⟨#[]⟩, .string ⟨#[]⟩, .bool false, .int .i64 0, .int .i64 0, .string ⟨#[]⟩, .string ⟨#[]⟩, .slice none 0 0] 32) (w.heap.size + 1) (Array.getElem?_eq_some_iff.1 t1).1).trans t1
  have x2 : (w1.alloc (.cells #[.int .i64 0, .int .i64 0, .string ⟨#[]⟩, .int .i64 0, .bool false, .string ⟨#[]⟩, .int .i64 0, .int .i64 0, .int .i64 0, .int .i64 0, .bool false, .slice none 0 0, .slice none 0 0, .slice none 0 0, .slice none 0 0, .string ⟨#[]⟩, .string ⟨#[]⟩, .bool false, .bool false, .string ⟨#[]⟩, .string ⟨#[]⟩, .string ⟨#[]⟩, .bool false, .int .i64 0, .int .i64 0, .string ⟨#[]⟩, .string ⟨#[]⟩, .slice none 0 0] 32)).heap[w1.heap.size]? = some (.cells (Mg.row {}) 32 (0, 0)) := alloc_at _ _ _ rfl
  have hg : w.heap.size + 1 < w1.heap.size := (Array.getElem?_eq_some_iff.1 t1).1
  clear b1 m1 t1 q1
  generalize (w1.alloc (.cells #[.int .i64 0, .int .i64 0, .string ⟨#[]⟩, .int .i64 0, .bool false, .string ⟨#[]⟩, .int .i64 0, .int .i64 0, .int .i64 0, .int .i64 0, .bool false, .slice none 0 0, .slice none 0 0, .slice none 0 0, .slice none 0 0, .string ⟨#[]⟩, .string ⟨#[]⟩, .bool false, .bool false, .string ⟨#[]⟩, .string ⟨#[]⟩, .string ⟨#[]⟩, .bool false, .int .i64 0, .int .i64 0, .string ⟨#[]⟩, .string ⟨#[]⟩, .slice none 0 0] 32)) = w2 at b2 m2 t2 x2 ⊢
  generalize w1.heap.size = g at x2 hg ⊢
  refine wpList_storeRow rfl 32 (.tmp 4) (.tmp 12) rfl g 32 _ X (by rfl) (by rfl) x2 (by rw [HX3.out]; rfl) (by rw [HX3.out]; rfl) HX2.out ?_
  have b3 := below_row b2 (g := g) (by omega) X
  have m3 := (setRow_other w2 g w.heap.size X (by omega)).trans m2
  have t3 := (setRow_other w2 g (w.heap.size + 1) X (by omega)).trans t2
  have x3 := setRow_heap w2 g _ X _ _ x2
  clear b2 m2 t2 x2
  generalize w2.setRow g X = w3 at b3 m3 t3 x3 ⊢
  have q1 : w3.cell? ⟨w.heap.size, 1, none⟩ = some (.int .i64 0) := (Lib.cell_of_heap m3 1).trans (by rw [← HA.out]; rfl)
  go_simp
  go_upto_region 5 with fail
  have T : w3.drew.heap[w.heap.size]? = some (.cells A 32 (0, 0)) ∧ w3.drew.heap[w.heap.size + 1]? = some (.cells (Mg.row {}) 32 (0, 0)) := ⟨m3, t3⟩
  have D : Below w.heap.size w w3.drew := b3.drew
  have Y : w3.drew.heap[g]? = some (.cells X 32 (0, 0)) := x3
  refine wp_region_held (S := fun w' => w'.heap[w.heap.size]? = some (.cells A 32 (0, 0)) ∧ w'.heap[w.heap.size + 1]? = some (.cells (Mg.row {}) 32 (0, 0))) (by kernel_rfl) ?_
  change wpAnyH _ _ _ _ _ _ _ _ w3.drew
  clear m3 t3 b3 x3 q1
  generalize w3.drew = wr0 at T D Y ⊢
  refine anyH_take 0 (.pointer (some ⟨w.heap.size, 3, none⟩)) rfl (by kernel_rfl) (by kernel_rfl) (by kernel_rfl) (fun _ _ _ h => h) (by rfl) (fun w' hS => by go_simp) T (fun K hK => ?_); go_simp; refine hK _ _ ?_; clear hK K
  refine anyH_take 1 (.int .i64 v) rfl (by kernel_rfl) (by kernel_rfl) (by kernel_rfl) (fun _ _ _ h => h) (by rfl) (fun w' hS => by have q := (Lib.cell_of_heap hS.1 3).trans (show _ = some (.int .i64 v) from by rw [← HA.out]; rfl); go_simp) T (fun K hK => ?_); go_simp; refine hK _ _ ?_; clear hK K
  refine anyH_take 2 (.pointer (some ⟨w.heap.size, 2, none⟩)) rfl (by kernel_rfl) (by kernel_rfl) (by kernel_rfl) (fun _ _ _ h => h) (by rfl) (fun w' hS => by go_simp) T (fun K hK => ?_); go_simp; refine hK _ _ ?_; clear hK K
  refine anyH_take 3 (.string ⟨dn.toArray⟩) rfl (by kernel_rfl) (by kernel_rfl) (by kernel_rfl) (fun _ _ _ h => h) (by rfl) (fun w' hS => by have q := (Lib.cell_of_heap hS.1 2).trans (show _ = some (.string ⟨dn.toArray⟩) from by rw [← HA.out]; rfl); go_simp) T (fun K hK => ?_); go_simp; refine hK _ _ ?_; clear hK K
  refine anyH_take 4 (.pointer (some ⟨w.heap.size, 4, none⟩)) rfl (by kernel_rfl) (by kernel_rfl) (by kernel_rfl) (fun _ _ _ h => h) (by rfl) (fun w' hS => by go_simp) T (fun K hK => ?_); go_simp; refine hK _ _ ?_; clear hK K
  refine anyH_take 5 (.bool sasl) rfl (by kernel_rfl) (by kernel_rfl) (by kernel_rfl) (fun _ _ _ h => h) (by rfl) (fun w' hS => by have q := (Lib.cell_of_heap hS.1 4).trans (show _ = some (.bool sasl) from by rw [← HA.out]; rfl); go_simp) T (fun K hK => ?_); go_simp; refine hK _ _ ?_; clear hK K
  refine anyH_take 6 (.pointer (some ⟨w.heap.size, 5, none⟩)) rfl (by kernel_rfl) (by kernel_rfl) (by kernel_rfl) (fun _ _ _ h => h) (by rfl) (fun w' hS => by go_simp) T (fun K hK => ?_); go_simp; refine hK _ _ ?_; clear hK K
  refine anyH_take 7 (.string ⟨secret.toArray⟩) rfl (by kernel_rfl) (by kernel_rfl) (by kernel_rfl) (fun _ _ _ h => h) (by rfl) (fun w' hS => by have q := (Lib.cell_of_heap hS.1 5).trans (show _ = some (.string ⟨secret.toArray⟩) from by rw [← HA.out]; rfl); go_simp) T (fun K hK => ?_); go_simp; refine hK _ _ ?_; clear hK K
  have HY := HX.out
  have Y0 : wr0.heap[g]? = some (.cells (Mg.row { id := n, op := 0 }) 32 (0, 0)) := by rw [HY]; exact Y
  clear HY Y
  refine anyH_take 8 (.pointer (some ⟨g, 3, none⟩)) rfl (by kernel_rfl) (by kernel_rfl) (by kernel_rfl) (fun _ _ _ h => h) (by rfl) (fun w' hS => by go_simp) T (fun K hK => ?_); go_simp; refine hK _ _ ?_; clear hK K
  have s : wr0.cell? ⟨g, 3, none⟩ = some (.int .i64 0) := (Lib.cell_of_heap Y0 3).trans rfl
  have z := Lib.frozen_of_heap Y0 3
  have Y1 : (wr0.setCell ⟨g, 3, none⟩ (.int .i64 v)).heap[g]? = some (.cells (Mg.row { id := n, op := 0, ver := v }) 32 (0, 0)) := setCell_at (i := 3) (u := .int .i64 v) Y0
  have T0 : (wr0.setCell ⟨g, 3, none⟩ (.int .i64 v)).heap[w.heap.size]? = some (.cells A 32 (0, 0)) ∧ (wr0.setCell ⟨g, 3, none⟩ (.int .i64 v)).heap[w.heap.size + 1]? = some (.cells (Mg.row {}) 32 (0, 0)) := ⟨(Below.heap_setCell wr0 ⟨g, 3, none⟩ _ w.heap.size (by show w.heap.size ≠ g; omega)).trans T.1, (Below.heap_setCell wr0 ⟨g, 3, none⟩ _ (w.heap.size + 1) (by show w.heap.size + 1 ≠ g; omega)).trans T.2⟩
  have D0 := D.setCell (p := ⟨g, 3, none⟩) (by show w.heap.size ≤ g; omega) (.int .i64 v)
  refine anyH_one 9 (by kernel_rfl) rfl (by rfl) (fun K hK => ?_); go_simp; refine hK _ _ T0 ?_; clear hK K
  clear s z Y0 T D
  have T := T0
  have D := D0
  clear T0 D0
  generalize wr0.setCell ⟨g, 3, none⟩ (.int .i64 v) = wr1 at T D Y1 ⊢
  refine anyH_take 10 (.pointer (some ⟨g, 2, none⟩)) rfl (by kernel_rfl) (by kernel_rfl) (by kernel_rfl) (fun _ _ _ h => h) (by rfl) (fun w' hS => by go_simp) T (fun K hK => ?_); go_simp; refine hK _ _ ?_; clear hK K
  have s : wr1.cell? ⟨g, 2, none⟩ = some (.string ⟨#[]⟩) := (Lib.cell_of_heap Y1 2).trans rfl
  have z := Lib.frozen_of_heap Y1 2
  have Y2 : (wr1.setCell ⟨g, 2, none⟩ (.string ⟨dn.toArray⟩)).heap[g]? = some (.cells (Mg.row { id := n, op := 0, ver := v, dn := dn }) 32 (0, 0)) := setCell_at (i := 2) (u := .string ⟨dn.toArray⟩) Y1
  have T1 : (wr1.setCell ⟨g, 2, none⟩ (.string ⟨dn.toArray⟩)).heap[w.heap.size]? = some (.cells A 32 (0, 0)) ∧ (wr1.setCell ⟨g, 2, none⟩ (.string ⟨dn.toArray⟩)).heap[w.heap.size + 1]? = some (.cells (Mg.row {}) 32 (0, 0)) := ⟨(Below.heap_setCell wr1 ⟨g, 2, none⟩ _ w.heap.size (by show w.heap.size ≠ g; omega)).trans T.1, (Below.heap_setCell wr1 ⟨g, 2, none⟩ _ (w.heap.size + 1) (by show w.heap.size + 1 ≠ g; omega)).trans T.2⟩
  have D1 := D.setCell (p := ⟨g, 2, none⟩) (by show w.heap.size ≤ g; omega) (.string ⟨dn.toArray⟩)
  refine anyH_one 11 (by kernel_rfl) rfl (by rfl) (fun K hK => ?_); go_simp; refine hK _ _ T1 ?_; clear hK K
  clear s z Y1 T D
  have T := T1
  have D := D1
  clear T1 D1
  generalize wr1.setCell ⟨g, 2, none⟩ (.string ⟨dn.toArray⟩) = wr2 at T D Y2 ⊢
  refine anyH_take 12 (.pointer (some ⟨g, 4, none⟩)) rfl (by kernel_rfl) (by kernel_rfl) (by kernel_rfl) (fun _ _ _ h => h) (by rfl) (fun w' hS => by go_simp) T (fun K hK => ?_); go_simp; refine hK _ _ ?_; clear hK K
  have s : wr2.cell? ⟨g, 4, none⟩ = some (.bool false) := (Lib.cell_of_heap Y2 4).trans rfl
  have z := Lib.frozen_of_heap Y2 4
  have Y3 : (wr2.setCell ⟨g, 4, none⟩ (.bool sasl)).heap[g]? = some (.cells (Mg.row { id := n, op := 0, ver := v, dn := dn, sasl := sasl }) 32 (0, 0)) := setCell_at (i := 4) (u := .bool sasl) Y2
  have T2 : (wr2.setCell ⟨g, 4, none⟩ (.bool sasl)).heap[w.heap.size]? = some (.cells A 32 (0, 0)) ∧ (wr2.setCell ⟨g, 4, none⟩ (.bool sasl)).heap[w.heap.size + 1]? = some (.cells (Mg.row {}) 32 (0, 0)) := ⟨(Below.heap_setCell wr2 ⟨g, 4, none⟩ _ w.heap.size (by show w.heap.size ≠ g; omega)).trans T.1, (Below.heap_setCell wr2 ⟨g, 4, none⟩ _ (w.heap.size + 1) (by show w.heap.size + 1 ≠ g; omega)).trans T.2⟩
  have D2 := D.setCell (p := ⟨g, 4, none⟩) (by show w.heap.size ≤ g; omega) (.bool sasl)
  refine anyH_one 13 (by kernel_rfl) rfl (by rfl) (fun K hK => ?_); go_simp; refine hK _ _ T2 ?_; clear hK K
  clear s z Y2 T D
  have T := T2
  have D := D2
  clear T2 D2
  generalize wr2.setCell ⟨g, 4, none⟩ (.bool sasl) = wr3 at T D Y3 ⊢
  refine anyH_take 14 (.pointer (some ⟨g, 5, none⟩)) rfl (by kernel_rfl) (by kernel_rfl) (by kernel_rfl) (fun _ _ _ h => h) (by rfl) (fun w' hS => by go_simp) T (fun K hK => ?_); go_simp; refine hK _ _ ?_; clear hK K
  have s : wr3.cell? ⟨g, 5, none⟩ = some (.string ⟨#[]⟩) := (Lib.cell_of_heap Y3 5).trans rfl
  have z := Lib.frozen_of_heap Y3 5
  have Y4 : (wr3.setCell ⟨g, 5, none⟩ (.string ⟨secret.toArray⟩)).heap[g]? = some (.cells (Mg.row { id := n, op := 0, ver := v, dn := dn, sasl := sasl, secret := secret }) 32 (0, 0)) := setCell_at (i := 5) (u := .string ⟨secret.toArray⟩) Y3
  have T3 : (wr3.setCell ⟨g, 5, none⟩ (.string ⟨secret.toArray⟩)).heap[w.heap.size]? = some (.cells A 32 (0, 0)) ∧ (wr3.setCell ⟨g, 5, none⟩ (.string ⟨secret.toArray⟩)).heap[w.heap.size + 1]? = some (.cells (Mg.row {}) 32 (0, 0)) := ⟨(Below.heap_setCell wr3 ⟨g, 5, none⟩ _ w.heap.size (by show w.heap.size ≠ g; omega)).trans T.1, (Below.heap_setCell wr3 ⟨g, 5, none⟩ _ (w.heap.size + 1) (by show w.heap.size + 1 ≠ g; omega)).trans T.2⟩
  have D3 := D.setCell (p := ⟨g, 5, none⟩) (by show w.heap.size ≤ g; omega) (.string ⟨secret.toArray⟩)
  refine anyH_one 15 (by kernel_rfl) rfl (by rfl) (fun K hK => ?_); go_simp; refine hK _ _ T3 ?_; clear hK K
  clear s z Y3 T D
  have T := T3
  have D := D3
  clear T3 D3
  generalize wr3.setCell ⟨g, 5, none⟩ (.string ⟨secret.toArray⟩) = wr4 at T D Y4 ⊢
  refine wpAnyH_done (by kernel_rfl) ?_ _
  simp only [Exit.then]
  refine ‹∀ (a : Act) (w : World), Code.wp _ _ _ a w → _› _ _ ?_
  have q1 := (Lib.cell_of_heap T.1 1).trans (show _ = some (Value.int .i64 0) from by rw [← HA.out]; rfl)
  have Y : wr4.heap[g]? = some (.cells A 32 (0, 0)) := by rw [← HA.out]; exact Y4
  clear Y4
  have q3 : wr4.cell? ⟨w.heap.size, 3, none⟩ = some (.int .i64 v) := (Lib.cell_of_heap T.1 3).trans (by rw [← HA.out]; rfl)
  have f0 : decide (v ≥ 1) = true := decide_eq_true h0
  have f1 : decide (v ≤ 127) = true := decide_eq_true h1
  have f2 : decide (1 ≤ v) = true := decide_eq_true h0
  go_upto_region 36 with fail
  clear q1 q3
  refine wp_region_list ?_
  have hA1 : A.all (·.oneCell') = true := by rw [← HA.out]; simp [Mg.row, Value.oneCell']
  have hA2 : A.size = 28 := by rw [← HA.out]; rfl
  have HA1 := Lib.hid hA1
  have HA2 := Lib.hid hA2
  clear hA1 hA2
  have t5 := T.2
  refine wpList_loadRow rfl 32 (.tmp 4) rfl g 32 _ (0, 0) (by rfl) Y _ Tryz.underlying32 rfl (by rw [HA2.out]; rfl) ?_
  refine wpList_plain rfl fun K hK => ?_
  go_simp
  refine hK _ _ ?_; clear hK K
  have b6 := below_row D (g := w.heap.size + 1) (by omega) A
  have t6 := setRow_heap wr4 (w.heap.size + 1) _ A _ _ t5
  refine wpList_storeRow rfl 32 (.tmp 2) (.tmp 231) rfl (w.heap.size + 1) 32 _ A (by rfl) (by rfl) t5 (by rw [HA2.out]; rfl) (by rw [HA2.out]; rfl) HA1.out ?_
  generalize wr4.setRow (w.heap.size + 1) A = w6 at b6 t6 ⊢
  clear T D Y t5
  go_simp
  go_wp2_with fail
  refine bodyPost_ret (v := .tuple #[.agg A, .bool true]) ?_ rfl ⟨rfl, b6⟩
  have hr := run_loadVar_row (P := Tryz.prog) w6 (w.heap.size + 1) 32 32 A (0, 0) _ t6 (show Tryz.prog.underlying 32 = _ from Tryz.underlying32) (by rfl) (by rw [HA2.out]; rfl)
  simp [results, Tryz.f57]
  show ((Sem.run Tryz.prog (loadVar 32 ⟨w.heap.size + 1, 0, none⟩) w6).andThen fun a w' => Result.ok (Value.tuple #[a, Value.bool true]) w') = _
  rw [hr]
  simp
end Go.Proofs.YtaojidcneocelaaGreatDoor
