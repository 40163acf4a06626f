/- message.plain. (Written by genmsg.py.) -/
import Derived.Test.YtaojidcneocelaaGreatDoorMsI
namespace Go.Proofs.YtaojidcneocelaaGreatDoor
open Go.RowKit Go.Lib

def Mg.pv (m : Mg) : Array Value := #[.iface 3 (.int .i64 m.ver), .iface 9 (.string ⟨m.dn.toArray⟩), .iface 4 (.bool m.sasl), .iface 9 (.string ⟨m.secret.toArray⟩), .iface 3 (.int .i64 m.scope), .iface 3 (.int .i64 m.deref), .iface 3 (.int .i64 m.size), .iface 3 (.int .i64 m.time), .iface 4 (.bool m.types), .iface 129 (.agg #[.string ⟨m.newRdn.toArray⟩, .string ⟨m.newSup.toArray⟩, .string ⟨m.typ.toArray⟩]), .iface 130 (.agg #[.bool m.delOld, .bool m.hasSup]), .iface 131 (.agg #[.string ⟨m.value.toArray⟩, .string ⟨m.oid.toArray⟩]), .iface 4 (.bool m.has), .iface 3 (.int .i64 m.target), .iface 3 (.int .i64 m.code), .iface 131 (.agg #[.string ⟨m.matched.toArray⟩, .string ⟨m.text.toArray⟩])]
set_option maxRecDepth 100000 in
set_option maxHeartbeats 4000000 in
theorem plain_any (m : Mg) (w : World) : Calls Tryz.prog 59 #[.agg m.row] w fun e w' => e = .returned (.agg m.pv) ∧ Below w.heap.size w w' := by
  obtain ⟨A, hA⟩ : ∃ A, m.row = A := ⟨_, rfl⟩
  rw [hA]
  have HA := Lib.hid hA
  clear hA
  obtain ⟨P, hP⟩ : ∃ P, m.pv = P := ⟨_, rfl⟩
  have hP1 : (#[.iface 3 (.int .i64 m.ver), .iface 9 (.string ⟨m.dn.toArray⟩), .iface 4 (.bool m.sasl), .iface 9 (.string ⟨m.secret.toArray⟩), .iface 3 (.int .i64 m.scope), .iface 3 (.int .i64 m.deref), .iface 3 (.int .i64 m.size), .iface 3 (.int .i64 m.time), .iface 4 (.bool m.types), .iface 129 (.agg #[.string ⟨m.newRdn.toArray⟩, .string ⟨m.newSup.toArray⟩, .string ⟨m.typ.toArray⟩]), .iface 130 (.agg #[.bool m.delOld, .bool m.hasSup]), .iface 131 (.agg #[.string ⟨m.value.toArray⟩, .string ⟨m.oid.toArray⟩]), .iface 4 (.bool m.has), .iface 3 (.int .i64 m.target), .iface 3 (.int .i64 m.code), .iface 131 (.agg #[.string ⟨m.matched.toArray⟩, .string ⟨m.text.toArray⟩])] : Array Value) = P := hP
  have hP2 : P.size = 16 := by rw [← hP]; rfl
  have hP3 : P.all (·.oneCell') = true := by rw [← hP]; simp [Mg.pv, Value.oneCell']
  rw [hP]
  have HP1 := Lib.hid hP1
  have HP2 := Lib.hid hP2
  have HP3 := Lib.hid hP3
  clear hP hP1 hP2 hP3
  have b1 : Below w.heap.size w ((w.alloc (.cells A 32)).alloc (.cells #[.nilIface, .nilIface, .nilIface, .nilIface, .nilIface, .nilIface, .nilIface, .nilIface, .nilIface, .nilIface, .nilIface, .nilIface, .nilIface, .nilIface, .nilIface, .nilIface] 93)) := ((Below.refl _ _).alloc (Nat.le_refl _) _).alloc (by simp) _
  have m1 : ((w.alloc (.cells A 32)).alloc (.cells #[.nilIface, .nilIface, .nilIface, .nilIface, .nilIface, .nilIface, .nilIface, .nilIface, .nilIface, .nilIface, .nilIface, .nilIface, .nilIface, .nilIface, .nilIface, .nilIface] 93)).heap[w.heap.size]? = some (.cells A 32 (0, 0)) := (Lib.alloc_old _ _ _ (by simp)).trans (alloc_at _ _ _ rfl)
  have t1 : ((w.alloc (.cells A 32)).alloc (.cells #[.nilIface, .nilIface, .nilIface, .nilIface, .nilIface, .nilIface, .nilIface, .nilIface, .nilIface, .nilIface, .nilIface, .nilIface, .nilIface, .nilIface, .nilIface, .nilIface] 93)).heap[w.heap.size + 1]? = some (.cells #[.nilIface, .nilIface, .nilIface, .nilIface, .nilIface, .nilIface, .nilIface, .nilIface, .nilIface, .nilIface, .nilIface, .nilIface, .nilIface, .nilIface, .nilIface, .nilIface] 93 (0, 0)) := alloc_at _ _ _ (by simp)
  go_enter Tryz.func59, Tryz.ntmps59
  refine wp_seq ?_
  refine wp_region_list ?_
  refine wpList_plain rfl fun K hK => ?_
  go_simp
  refine hK _ _ ?_; clear hK K
  refine wpList_plain rfl fun K hK => ?_
  go_simp
  refine hK _ _ ?_; clear hK K
  generalize ((w.alloc (.cells A 32)).alloc (.cells #[.nilIface, .nilIface, .nilIface, .nilIface, .nilIface, .nilIface, .nilIface, .nilIface, .nilIface, .nilIface, .nilIface, .nilIface, .nilIface, .nilIface, .nilIface, .nilIface] 93)) = w1 at b1 m1 t1 ⊢
  have q3 : w1.cell? ⟨w.heap.size, 3, none⟩ = some (.int .i64 m.ver) := (Lib.cell_of_heap m1 3).trans (by rw [← HA.out]; rfl)
  have q2 : w1.cell? ⟨w.heap.size, 2, none⟩ = some (.string ⟨m.dn.toArray⟩) := (Lib.cell_of_heap m1 2).trans (by rw [← HA.out]; rfl)
  have q4 : w1.cell? ⟨w.heap.size, 4, none⟩ = some (.bool m.sasl) := (Lib.cell_of_heap m1 4).trans (by rw [← HA.out]; rfl)
  have q5 : w1.cell? ⟨w.heap.size, 5, none⟩ = some (.string ⟨m.secret.toArray⟩) := (Lib.cell_of_heap m1 5).trans (by rw [← HA.out]; rfl)
  have q6 : w1.cell? ⟨w.heap.size, 6, none⟩ = some (.int .i64 m.scope) := (Lib.cell_of_heap m1 6).trans (by rw [← HA.out]; rfl)
  have q7 : w1.cell? ⟨w.heap.size, 7, none⟩ = some (.int .i64 m.deref) := (Lib.cell_of_heap m1 7).trans (by rw [← HA.out]; rfl)
  have q8 : w1.cell? ⟨w.heap.size, 8, none⟩ = some (.int .i64 m.size) := (Lib.cell_of_heap m1 8).trans (by rw [← HA.out]; rfl)
  have q9 : w1.cell? ⟨w.heap.size, 9, none⟩ = some (.int .i64 m.time) := (Lib.cell_of_heap m1 9).trans (by rw [← HA.out]; rfl)
  have q10 : w1.cell? ⟨w.heap.size, 10, none⟩ = some (.bool m.types) := (Lib.cell_of_heap m1 10).trans (by rw [← HA.out]; rfl)
  have q15 : w1.cell? ⟨w.heap.size, 15, none⟩ = some (.string ⟨m.newRdn.toArray⟩) := (Lib.cell_of_heap m1 15).trans (by rw [← HA.out]; rfl)
  have q16 : w1.cell? ⟨w.heap.size, 16, none⟩ = some (.string ⟨m.newSup.toArray⟩) := (Lib.cell_of_heap m1 16).trans (by rw [← HA.out]; rfl)
  have q19 : w1.cell? ⟨w.heap.size, 19, none⟩ = some (.string ⟨m.typ.toArray⟩) := (Lib.cell_of_heap m1 19).trans (by rw [← HA.out]; rfl)
  have q17 : w1.cell? ⟨w.heap.size, 17, none⟩ = some (.bool m.delOld) := (Lib.cell_of_heap m1 17).trans (by rw [← HA.out]; rfl)
  have q18 : w1.cell? ⟨w.heap.size, 18, none⟩ = some (.bool m.hasSup) := (Lib.cell_of_heap m1 18).trans (by rw [← HA.out]; rfl)
  have q20 : w1.cell? ⟨w.heap.size, 20, none⟩ = some (.string ⟨m.value.toArray⟩) := (Lib.cell_of_heap m1 20).trans (by rw [← HA.out]; rfl)
  have q21 : w1.cell? ⟨w.heap.size, 21, none⟩ = some (.string ⟨m.oid.toArray⟩) := (Lib.cell_of_heap m1 21).trans (by rw [← HA.out]; rfl)
  have q22 : w1.cell? ⟨w.heap.size, 22, none⟩ = some (.bool m.has) := (Lib.cell_of_heap m1 22).trans (by rw [← HA.out]; rfl)
  have q23 : w1.cell? ⟨w.heap.size, 23, none⟩ = some (.int .i64 m.target) := (Lib.cell_of_heap m1 23).trans (by rw [← HA.out]; rfl)
  have q24 : w1.cell? ⟨w.heap.size, 24, none⟩ = some (.int .i64 m.code) := (Lib.cell_of_heap m1 24).trans (by rw [← HA.out]; rfl)
  have q25 : w1.cell? ⟨w.heap.size, 25, none⟩ = some (.string ⟨m.matched.toArray⟩) := (Lib.cell_of_heap m1 25).trans (by rw [← HA.out]; rfl)
  have q26 : w1.cell? ⟨w.heap.size, 26, none⟩ = some (.string ⟨m.text.toArray⟩) := (Lib.cell_of_heap m1 26).trans (by rw [← HA.out]; rfl)
  clear m1
  go_upto_region 1 with fail
  refine wp_region_list ?_
  refine wpList_plain rfl fun K hK => ?_
  go_simp
  refine hK _ _ ?_; clear hK K
  refine wpList_plain rfl fun K hK => ?_
  go_simp
  refine hK _ _ ?_; clear hK K
  refine wpList_plain rfl fun K hK => ?_
  go_simp
  refine hK _ _ ?_; clear hK K
  refine wpList_plain rfl fun K hK => ?_
  go_simp
  refine hK _ _ ?_; clear hK K
  refine wpList_plain rfl fun K hK => ?_
  go_simp
  refine hK _ _ ?_; clear hK K
  refine wpList_plain rfl fun K hK => ?_
  go_simp
  refine hK _ _ ?_; clear hK K
  refine wpList_plain rfl fun K hK => ?_
  go_simp
  refine hK _ _ ?_; clear hK K
  refine wpList_plain rfl fun K hK => ?_
  go_simp
  refine hK _ _ ?_; clear hK K
  refine wpList_plain rfl fun K hK => ?_
  go_simp
  refine hK _ _ ?_; clear hK K
  refine wpList_plain rfl fun K hK => ?_
  go_simp
  refine hK _ _ ?_; clear hK K
  refine wpList_plain rfl fun K hK => ?_
  go_simp
  refine hK _ _ ?_; clear hK K
  refine wpList_plain rfl fun K hK => ?_
  go_simp
  refine hK _ _ ?_; clear hK K
  refine wpList_plain rfl fun K hK => ?_
  go_simp
  refine hK _ _ ?_; clear hK K
  refine wpList_plain rfl fun K hK => ?_
  go_simp
  refine hK _ _ ?_; clear hK K
  refine wpList_plain rfl fun K hK => ?_
  go_simp
  refine hK _ _ ?_; clear hK K
  refine wpList_plain rfl fun K hK => ?_
  go_simp
  refine hK _ _ ?_; clear hK K
  refine wpList_plain rfl fun K hK => ?_
  go_simp
  refine hK _ _ ?_; clear hK K
  refine wpList_plain rfl fun K hK => ?_
  go_simp
  refine hK _ _ ?_; clear hK K
  refine wpList_plain rfl fun K hK => ?_
  go_simp
  refine hK _ _ ?_; clear hK K
  refine wpList_plain rfl fun K hK => ?_
  go_simp
  refine hK _ _ ?_; clear hK K
  refine wpList_plain rfl fun K hK => ?_
  go_simp
  refine hK _ _ ?_; clear hK K
  refine wpList_plain rfl fun K hK => ?_
  go_simp
  refine hK _ _ ?_; clear hK K
  refine wpList_plain rfl fun K hK => ?_
  go_simp
  refine hK _ _ ?_; clear hK K
  refine wpList_plain rfl fun K hK => ?_
  go_simp
  refine hK _ _ ?_; clear hK K
  refine wpList_plain rfl fun K hK => ?_
  go_simp
  refine hK _ _ ?_; clear hK K
  refine wpList_plain rfl fun K hK => ?_
  go_simp
  refine hK _ _ ?_; clear hK K
  refine wpList_plain rfl fun K hK => ?_
  go_simp
  refine hK _ _ ?_; clear hK K
  refine wpList_plain rfl fun K hK => ?_
  go_simp
  refine hK _ _ ?_; clear hK K
  refine wpList_plain rfl fun K hK => ?_
  go_simp
  refine hK _ _ ?_; clear hK K
  refine wpList_plain rfl fun K hK => ?_
  go_simp
  refine hK _ _ ?_; clear hK K
  refine wpList_plain rfl fun K hK => ?_
  go_simp
  refine hK _ _ ?_; clear hK K
  refine wpList_plain rfl fun K hK => ?_
  go_simp
  refine hK _ _ ?_; clear hK K
  refine wpList_plain rfl fun K hK => ?_
  go_simp
  refine hK _ _ ?_; clear hK K
  refine wpList_plain rfl fun K hK => ?_
  go_simp
  refine hK _ _ ?_; clear hK K
  refine wpList_plain rfl fun K hK => ?_
  go_simp
  refine hK _ _ ?_; clear hK K
  refine wpList_plain rfl fun K hK => ?_
  go_simp
  refine hK _ _ ?_; clear hK K
  refine wpList_plain rfl fun K hK => ?_
  go_simp
  refine hK _ _ ?_; clear hK K
  refine wpList_plain rfl fun K hK => ?_
  go_simp
  refine hK _ _ ?_; clear hK K
  refine wpList_plain rfl fun K hK => ?_
  go_simp
  refine hK _ _ ?_; clear hK K
  refine wpList_plain rfl fun K hK => ?_
  go_simp
  refine hK _ _ ?_; clear hK K
  refine wpList_plain rfl fun K hK => ?_
  go_simp
  refine hK _ _ ?_; clear hK K
  refine wpList_plain rfl fun K hK => ?_
  go_simp
  refine hK _ _ ?_; clear hK K
  refine wpList_plain rfl fun K hK => ?_
  go_simp
  refine hK _ _ ?_; clear hK K
  refine wpList_plain rfl fun K hK => ?_
  go_simp
  refine hK _ _ ?_; clear hK K
  refine wpList_plain rfl fun K hK => ?_
  go_simp
  refine hK _ _ ?_; clear hK K
  refine wpList_plain rfl fun K hK => ?_
  go_simp
  refine hK _ _ ?_; clear hK K
  refine wpList_plain rfl fun K hK => ?_
  go_simp
  refine hK _ _ ?_; clear hK K
  refine wpList_plain rfl fun K hK => ?_
  go_simp
  refine hK _ _ ?_; clear hK K
  refine wpList_plain rfl fun K hK => ?_
  go_simp
  refine hK _ _ ?_; clear hK K
  refine wpList_plain rfl fun K hK => ?_
  go_simp
  refine hK _ _ ?_; clear hK K
  refine wpList_plain rfl fun K hK => ?_
  go_simp
  refine hK _ _ ?_; clear hK K
  refine wpList_plain rfl fun K hK => ?_
  go_simp
  refine hK _ _ ?_; clear hK K
  refine wpList_plain rfl fun K hK => ?_
  go_simp
  refine hK _ _ ?_; clear hK K
  refine wpList_plain rfl fun K hK => ?_
  go_simp
  refine hK _ _ ?_; clear hK K
  refine wpList_plain rfl fun K hK => ?_
  go_simp
  refine hK _ _ ?_; clear hK K
  refine wpList_plain rfl fun K hK => ?_
  go_simp
  refine hK _ _ ?_; clear hK K
  refine wpList_plain rfl fun K hK => ?_
  go_simp
  refine hK _ _ ?_; clear hK K
  refine wpList_plain rfl fun K hK => ?_
  go_simp
  refine hK _ _ ?_; clear hK K
  refine wpList_plain rfl fun K hK => ?_
  go_simp
  refine hK _ _ ?_; clear hK K
  refine wpList_plain rfl fun K hK => ?_
  go_simp
  refine hK _ _ ?_; clear hK K
  refine wpList_plain rfl fun K hK => ?_
  go_simp
  refine hK _ _ ?_; clear hK K
  refine wpList_plain rfl fun K hK => ?_
  go_simp
  refine hK _ _ ?_; clear hK K
  clear q3 q2 q4 q5 q6 q7 q8 q9 q10 q15 q16 q19 q17 q18 q20 q21 q22 q23 q24 q25 q26
  refine wpList_plain rfl fun K hK => ?_
  go_simp
  rw [HP1.out]
  refine hK _ _ ?_; clear hK K
  have b2 := below_row b1 (g := w.heap.size + 1) (by omega) P
  have t2 := setRow_heap w1 (w.heap.size + 1) _ P _ _ t1
  refine wpList_storeRow rfl 93 (.tmp 2) (.tmp 65) rfl (w.heap.size + 1) 93 _ P (by rfl) (by rfl) t1 (by rw [HP2.out]; rfl) (by rw [HP2.out]; rfl) HP3.out ?_
  generalize w1.setRow (w.heap.size + 1) P = w2 at b2 t2 ⊢
  clear b1 t1
  go_simp
  go_wp2_with fail
  refine bodyPost_ret (v := .agg P) ?_ rfl ⟨rfl, b2⟩
  have hr := run_loadVar_row (P := Tryz.prog) w2 (w.heap.size + 1) 93 93 P (0, 0) (.array 16 20) t2 (show Tryz.prog.underlying 93 = _ from by rfl) (by rfl) (by rw [HP2.out]; rfl)
  simp [results, Tryz.f59]
  exact hr
end Go.Proofs.YtaojidcneocelaaGreatDoor
