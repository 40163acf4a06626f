/- MsC, MsD, MsF, MsG, MsJ, MsK, MsS, MsT, CnA, PlainDn. -/
import Derived.ChangeKeysEq
import Derived.Lib.IndexLaws
import Derived.Lib.Split
import Derived.Lib.ValidLaws
import Derived.Test.YthjaiigijbjloaaGreatDoorQ12
import Derived.Test.YthjaiigijbjloaaGreatDoorQ14
namespace Go.Proofs.YthjaiigijbjloaaGreatDoor
open Go.RowKit Go.Lib
open Go.Lib
set_option maxRecDepth 100000 in
set_option maxHeartbeats 2000000 in
theorem read1_delete (n : Nat) (hn : n ≤ 127) (dn : List UInt8) (hd : dn.length ≤ 1000000) (A M : Nat) (_hAM : A ≠ M) (u : Value) (w : World) (hA : w.heap[A]? = some (.cells (elA (delE n dn) u) 45 (0, 0))) (hM : w.heap[M]? = some (.cells (msgD 0 0 []) 28 (0, 0))) (h : KidsAt (fun _ => True) w u (delE n dn).kids) :
  Calls Tryz.prog 47 #[.pointer (some ⟨A, 0, none⟩), .pointer (some ⟨M, 0, none⟩)] w fun e w' => e = .returned (.tuple #[]) ∧ w'.heap[M]? = some (.cells (msgD n 10 dn) 28 (0, 0)) ∧ BelR M w.heap.size w w' := by
 have kt := told_delete n hn dn hd u w h
 go_enter Tryz.func47, Tryz.ntmps47
 go_wp2_with (refine wpList_loadRow rfl 45 (.tmp 0) rfl A 45 _ (0, 0) (by rfl) hA _ Tryz.underlying45 rfl (by rfl) ?_)
 refine Calls.mono kt ?_
 rintro e w1 ⟨rfl, hb1⟩
 have m1 := (hb1.block _ (gl hM)).trans hM
 have m2 := setRow_heap w1 M _ (msgD n 10 dn) _ _ m1
 have hB : BelR M w.heap.size w (w1.setRow M (msgD n 10 dn)) := ⟨hb1.os, hb1.tape, hb1.output, by simp [World.setRow]; exact hb1.size, fun j hj hne => (setRow_other w1 M j _ hne).trans (hb1.block j hj)⟩
 clear kt hb1
 go_wp2_with (refine wpList_storeRow rfl 28 (.tmp 1) (.tmp 3) rfl M 28 _ (msgD n 10 dn) (by rfl) (by rfl) m1 (by rfl) (by rfl) (by simp [msgD, Value.oneCell']) ?_)
 go_end0
 exact ⟨rfl, m2, hB⟩
set_option maxRecDepth 100000 in
set_option maxHeartbeats 2000000 in
theorem reads_idle (po : Nat) (w : World) :
  CallsD Tryz.prog 98 #[.pointer (some ⟨po, 0, none⟩)] .returning w fun e u' w' => e = .returned (.tuple #[]) ∧ u' = .returning ∧ w' = w := by
 refine callsD_of_wpS Tryz.func98 rfl fun c₀ cs hu => ?_
 apply wpS_seq
 apply wpS_region
 simp [wpOpsS, go_sem, recoverD, hu, Tryz.ntmps98, Exit.thenS]
 refine wpS_of_wp ?_
 simp only [Array.replicate, List.replicate, List.setIfInBounds_toArray, List.set]
 go_wp2
 cases c₀
 simp_all [bodyPostS, results, Tryz.results98]
set_option maxRecDepth 100000 in
set_option maxHeartbeats 2000000 in
theorem reads_delete (n : Nat) (hn : n ≤ 127) (dn : List UInt8) (hd : dn.length ≤ 1000000) (A M : Nat) (hAM : A ≠ M) (u : Value) (w : World) (hA : w.heap[A]? = some (.cells (elA (delE n dn) u) 45 (0, 0))) (hM : w.heap[M]? = some (.cells (msgD 0 0 []) 28 (0, 0))) (h : KidsAt (fun _ => True) w u (delE n dn).kids) :
  Calls Tryz.prog 46 #[.func (.func 47) #[] #[.pointer (some ⟨A, 0, none⟩), .pointer (some ⟨M, 0, none⟩)]] w fun e w' => e = .returned (.bool true) ∧ w'.heap[M]? = some (.cells (msgD n 10 dn) 28 (0, 0)) ∧ BelR M w.heap.size w w' := by
 have hmf : ∀ (fn : Fn) (first cap : Array Value) (w : World), (Instr.makeFunc fn first cap).run Tryz.prog w = .ok (.func fn first cap) w := fun _ _ _ _ => rfl
 obtain ⟨PR, hPR⟩ : ∃ PR : Ending → World → Prop, PR = fun e w' => e = .returned (.bool true) ∧ w'.heap[M]? = some (.cells (msgD n 10 dn) 28 (0, 0)) ∧ BelR M w.heap.size w w' := ⟨_, rfl⟩
 rw [← hPR]
 have HP := hid hPR
 clear hPR
 have hMl := (gl hM)
 have bA : Below w.heap.size w (w.alloc (.cells #[.bool false] 4)) := (Below.refl _ _).alloc (Nat.le_refl _) _
 have oA : (w.alloc (.cells #[.bool false] 4)).heap[w.heap.size]? = some (.cells #[.bool false] 4 (0, 0)) := alloc_at _ _ _ rfl
 have kr := read1_delete n hn dn hd A M hAM u (w.alloc (.cells #[.bool false] 4)) ((bA.block _ (gl hA)).trans hA) ((bA.block _ hMl).trans hM) (h.below bA)
 clear hA hM h
 go_enter_defers Tryz.func46, Tryz.ntmps46
 go_wp2_with fail
 generalize w.alloc (.cells #[.bool false] 4) = wA at bA oA kr ⊢
 refine Calls.mono kr ?_
 rintro e w1 ⟨rfl, m1, hB1⟩
 have o1 := (hB1.block _ (gl oA) (by omega)).trans oA
 have b1 : BelR M w.heap.size w w1 := (BelR.of_below bA).trans (hB1.mono bA.size)
 have q1 : w1.cell? ⟨w.heap.size, 0, none⟩ = some (.bool false) := (cell_of_heap o1 0).trans rfl
 have z1 := Lib.frozen_of_heap o1 0
 have m2 : (w1.setCell ⟨w.heap.size, 0, none⟩ (.bool true)).heap[M]? = some (.cells (msgD n 10 dn) 28 (0, 0)) := (Below.heap_setCell w1 ⟨w.heap.size, 0, none⟩ _ M (by show M ≠ w.heap.size; omega)).trans m1
 have o2 : (w1.setCell ⟨w.heap.size, 0, none⟩ (.bool true)).cell? ⟨w.heap.size, 0, none⟩ = some (.bool true) := (cell_of_heap (show (w1.setCell ⟨w.heap.size, 0, none⟩ (.bool true)).heap[w.heap.size]? = some (.cells #[.bool true] 4 (0, 0)) from setCell_at (i := 0) (u := .bool true) o1) 0).trans rfl
 have b2 : BelR M w.heap.size w (w1.setCell ⟨w.heap.size, 0, none⟩ (.bool true)) := ⟨b1.os, b1.tape, b1.output, by simpa using b1.size, fun j hj hne => (Below.heap_setCell w1 ⟨w.heap.size, 0, none⟩ _ j (by show j ≠ w.heap.size; omega)).trans (b1.block j hj hne)⟩
 have M2 := hid m2
 have B2 := hid b2
 have O2 := hid o2
 clear kr oA hB1 o1 b1 m1 m2 b2 o2
 go_wp2_with fail
 have o2 := O2.out
 clear q1 z1 O2
 generalize w1.setCell ⟨w.heap.size, 0, none⟩ (.bool true) = wF at o2 M2 B2 ⊢
 refine leaves_cons (f := 98) (args := #[.pointer (some ⟨w.heap.size, 0, none⟩)]) (by simp) (by simp [go_sem]) ?_
 refine (reads_idle w.heap.size wF).mono ?_
 rintro e u' w3 ⟨rfl, rfl, hw3⟩
 rw [hw3]
 simp [Leaves, settle, results, Tryz.results46, go_sem, o2]
 rw [HP.out]
 exact ⟨rfl, M2.out, B2.out⟩
set_option maxRecDepth 100000 in
theorem isOp_any (op : Int) (b : Nat) (zs : List Int) (w : World) (hl : zs.length ≤ 1000) (hc : ∀ j, j < zs.length → w.cell? ⟨b, 0 + j, none⟩ = some (.int .i64 (zs.getD j 0))) :
  Calls Tryz.prog 59 #[.int .i64 op, .slice (some ⟨b, 0, none⟩) zs.length zs.length] w fun e w' => e = .returned (.bool (zs.contains op)) ∧ w' = w := by
 have k := Tryz.slices_Contains_int b 0 zs.length zs.length zs op w (Nat.le_refl _) (by omega) hc
 rw [List.take_of_length_le (Nat.le_refl _)] at k
 obtain ⟨R, hR⟩ : ∃ R, zs.contains op = R := ⟨_, rfl⟩
 rw [hR] at k ⊢
 clear hR hc
 go_enter Tryz.func59, Tryz.ntmps59
 go_wp2_with fail
 refine Calls.mono k ?_
 rintro e w1 ⟨rfl, rfl⟩
 go_wp2_with fail
 go_ret
 exact ⟨rfl, rfl⟩
set_option maxRecDepth 100000 in
theorem inRange_ok (n most : Int) (h0 : 0 ≤ n) (h1 : n ≤ most) (w : World) : Calls Tryz.prog 40 #[.int .i64 n, .int .i64 most] w fun e w' => e = .returned (.bool true) ∧ w' = w := by
 have g1 : decide ((0 : Int) ≤ n) = true := decide_eq_true h0
 have g2 : decide (n ≤ most) = true := decide_eq_true h1
 go_enter Tryz.func40, Tryz.ntmps40
 go_wp2_with fail
 go_ret
 exact ⟨rfl, rfl⟩
def isResL : List Int := [1, 5, 7, 9, 11, 13, 15, 24]
set_option maxRecDepth 100000 in
theorem isRes_any (op : Int) (w : World) : Calls Tryz.prog 93 #[.int .i64 op] w fun e w' => e = .returned (.bool (isResL.contains op)) ∧ Below w.heap.size w w' := by
 have a1 : (w.alloc (.cells #[.int .i64 1, .int .i64 5, .int .i64 7, .int .i64 9, .int .i64 11, .int .i64 13, .int .i64 15, .int .i64 24] 3)).heap[w.heap.size]? = some (.cells #[.int .i64 1, .int .i64 5, .int .i64 7, .int .i64 9, .int .i64 11, .int .i64 13, .int .i64 15, .int .i64 24] 3 (0, 0)) := alloc_at _ _ _ rfl
 have b1 : Below w.heap.size w (w.alloc (.cells #[.int .i64 1, .int .i64 5, .int .i64 7, .int .i64 9, .int .i64 11, .int .i64 13, .int .i64 15, .int .i64 24] 3)) := (Below.refl _ _).alloc (Nat.le_refl _) _
 have kc := isOp_any op w.heap.size [1, 5, 7, 9, 11, 13, 15, 24] (w.alloc (.cells #[.int .i64 1, .int .i64 5, .int .i64 7, .int .i64 9, .int .i64 11, .int .i64 13, .int .i64 15, .int .i64 24] 3)) (by simp) (fun j hj => by
  have h2 : j < 8 := hj
  have hcases : j = 0 ∨ j = 1 ∨ j = 2 ∨ j = 3 ∨ j = 4 ∨ j = 5 ∨ j = 6 ∨ j = 7 := by omega
  rcases hcases with rfl | rfl | rfl | rfl | rfl | rfl | rfl | rfl
  ·exact (cell_of_heap a1 0).trans rfl
  ·exact (cell_of_heap a1 1).trans rfl
  ·exact (cell_of_heap a1 2).trans rfl
  ·exact (cell_of_heap a1 3).trans rfl
  ·exact (cell_of_heap a1 4).trans rfl
  ·exact (cell_of_heap a1 5).trans rfl
  ·exact (cell_of_heap a1 6).trans rfl
  ·exact (cell_of_heap a1 7).trans rfl)
 obtain ⟨R, hR⟩ : ∃ R, ([1, 5, 7, 9, 11, 13, 15, 24] : List Int).contains op = R := ⟨_, rfl⟩
 rw [show isResL.contains op = R from hR]
 rw [hR] at kc
 clear hR a1
 go_enter Tryz.func93, Tryz.ntmps93
 go_wp2_with fail
 generalize w.alloc (.cells #[.int .i64 1, .int .i64 5, .int .i64 7, .int .i64 9, .int .i64 11, .int .i64 13, .int .i64 15, .int .i64 24] 3) = w1 at b1 kc ⊢
 refine Calls.mono kc ?_
 rintro e w2 ⟨rfl, rfl⟩
 go_wp2_with fail
 go_ret
 exact ⟨rfl, b1⟩
structure Mg where
 id : Int := 0
 op : Int := 0
 dn : List UInt8 := []
 ver : Int := 0
 sasl : Bool := false
 secret : List UInt8 := []
 scope : Int := 0
 deref : Int := 0
 size : Int := 0
 time : Int := 0
 types : Bool := false
 filt : Value := .slice none 0 0
 sel : Value := .slice none 0 0
 mods : Value := .slice none 0 0
 attrs : Value := .slice none 0 0
 newRdn : List UInt8 := []
 newSup : List UInt8 := []
 delOld : Bool := false
 hasSup : Bool := false
 typ : List UInt8 := []
 value : List UInt8 := []
 oid : List UInt8 := []
 has : Bool := false
 target : Int := 0
 code : Int := 0
 matched : List UInt8 := []
 text : List UInt8 := []
 ctl : Value := .slice none 0 0
def Mg.row (m : Mg) : Array Value := #[.int .i64 m.id, .int .i64 m.op, .string ⟨m.dn.toArray⟩, .int .i64 m.ver, .bool m.sasl, .string ⟨m.secret.toArray⟩, .int .i64 m.scope, .int .i64 m.deref, .int .i64 m.size, .int .i64 m.time, .bool m.types, m.filt, m.sel, m.mods, m.attrs, .string ⟨m.newRdn.toArray⟩, .string ⟨m.newSup.toArray⟩, .bool m.delOld, .bool m.hasSup, .string ⟨m.typ.toArray⟩, .string ⟨m.value.toArray⟩, .string ⟨m.oid.toArray⟩, .bool m.has, .int .i64 m.target, .int .i64 m.code, .string ⟨m.matched.toArray⟩, .string ⟨m.text.toArray⟩, m.ctl]
def Mg.pv (m : Mg) : Array Value := #[.iface 3 (.int .i64 m.ver), .iface 9 (.string ⟨m.dn.toArray⟩), .iface 4 (.bool m.sasl), .iface 9 (.string ⟨m.secret.toArray⟩), .iface 3 (.int .i64 m.scope), .iface 3 (.int .i64 m.deref), .iface 3 (.int .i64 m.size), .iface 3 (.int .i64 m.time), .iface 4 (.bool m.types), .iface 118 (.agg #[.string ⟨m.newRdn.toArray⟩, .string ⟨m.newSup.toArray⟩, .string ⟨m.typ.toArray⟩]), .iface 119 (.agg #[.bool m.delOld, .bool m.hasSup]), .iface 120 (.agg #[.string ⟨m.value.toArray⟩, .string ⟨m.oid.toArray⟩]), .iface 4 (.bool m.has), .iface 3 (.int .i64 m.target), .iface 3 (.int .i64 m.code), .iface 120 (.agg #[.string ⟨m.matched.toArray⟩, .string ⟨m.text.toArray⟩])]
set_option maxRecDepth 100000 in
set_option maxHeartbeats 4000000 in
theorem plain_any (m : Mg) (w : World) : Calls Tryz.prog 41 #[.agg m.row] w fun e w' => e = .returned (.agg m.pv) ∧ Below w.heap.size w w' := by
 obtain ⟨A, hA⟩ : ∃ A, m.row = A := ⟨_, rfl⟩
 rw [hA]
 have HA := hid hA
 clear hA
 obtain ⟨P, hP⟩ : ∃ P, m.pv = P := ⟨_, rfl⟩
 have hP1 : (#[.iface 3 (.int .i64 m.ver), .iface 9 (.string ⟨m.dn.toArray⟩), .iface 4 (.bool m.sasl), .iface 9 (.string ⟨m.secret.toArray⟩), .iface 3 (.int .i64 m.scope), .iface 3 (.int .i64 m.deref), .iface 3 (.int .i64 m.size), .iface 3 (.int .i64 m.time), .iface 4 (.bool m.types), .iface 118 (.agg #[.string ⟨m.newRdn.toArray⟩, .string ⟨m.newSup.toArray⟩, .string ⟨m.typ.toArray⟩]), .iface 119 (.agg #[.bool m.delOld, .bool m.hasSup]), .iface 120 (.agg #[.string ⟨m.value.toArray⟩, .string ⟨m.oid.toArray⟩]), .iface 4 (.bool m.has), .iface 3 (.int .i64 m.target), .iface 3 (.int .i64 m.code), .iface 120 (.agg #[.string ⟨m.matched.toArray⟩, .string ⟨m.text.toArray⟩])] : Array Value) = P := hP
 have hP2 : P.size = 16 := by rw [← hP]; rfl
 have hP3 : P.all (·.oneCell') = true := by rw [← hP]; simp [Mg.pv, Value.oneCell']
 rw [hP]
 have HP1 := hid hP1
 have HP2 := hid hP2
 have HP3 := hid hP3
 clear hP hP1 hP2 hP3
 have b1 : Below w.heap.size w ((w.alloc (.cells A 28)).alloc (.cells #[.nilIface, .nilIface, .nilIface, .nilIface, .nilIface, .nilIface, .nilIface, .nilIface, .nilIface, .nilIface, .nilIface, .nilIface, .nilIface, .nilIface, .nilIface, .nilIface] 73)) := ((Below.refl _ _).alloc (Nat.le_refl _) _).alloc (by simp) _
 have m1 : ((w.alloc (.cells A 28)).alloc (.cells #[.nilIface, .nilIface, .nilIface, .nilIface, .nilIface, .nilIface, .nilIface, .nilIface, .nilIface, .nilIface, .nilIface, .nilIface, .nilIface, .nilIface, .nilIface, .nilIface] 73)).heap[w.heap.size]? = some (.cells A 28 (0, 0)) := (alloc_old _ _ _ (by simp)).trans (alloc_at _ _ _ rfl)
 have t1 : ((w.alloc (.cells A 28)).alloc (.cells #[.nilIface, .nilIface, .nilIface, .nilIface, .nilIface, .nilIface, .nilIface, .nilIface, .nilIface, .nilIface, .nilIface, .nilIface, .nilIface, .nilIface, .nilIface, .nilIface] 73)).heap[w.heap.size + 1]? = some (.cells #[.nilIface, .nilIface, .nilIface, .nilIface, .nilIface, .nilIface, .nilIface, .nilIface, .nilIface, .nilIface, .nilIface, .nilIface, .nilIface, .nilIface, .nilIface, .nilIface] 73 (0, 0)) := alloc_at _ _ _ (by simp)
 go_enter Tryz.func41, Tryz.ntmps41
 refine wp_seq ?_
 refine wp_region_list ?_
 iterate 2 (refine wpList_plain rfl fun K hK => ?_; go_simp; refine hK _ _ ?_; clear hK K)
 generalize ((w.alloc (.cells A 28)).alloc (.cells #[.nilIface, .nilIface, .nilIface, .nilIface, .nilIface, .nilIface, .nilIface, .nilIface, .nilIface, .nilIface, .nilIface, .nilIface, .nilIface, .nilIface, .nilIface, .nilIface] 73)) = w1 at b1 m1 t1 ⊢
 have q3 : w1.cell? ⟨w.heap.size, 3, none⟩ = some (.int .i64 m.ver) := (cell_of_heap m1 3).trans (by rw [← HA.out]; rfl)
 have q2 : w1.cell? ⟨w.heap.size, 2, none⟩ = some (.string ⟨m.dn.toArray⟩) := (cell_of_heap m1 2).trans (by rw [← HA.out]; rfl)
 have q4 : w1.cell? ⟨w.heap.size, 4, none⟩ = some (.bool m.sasl) := (cell_of_heap m1 4).trans (by rw [← HA.out]; rfl)
 have q5 : w1.cell? ⟨w.heap.size, 5, none⟩ = some (.string ⟨m.secret.toArray⟩) := (cell_of_heap m1 5).trans (by rw [← HA.out]; rfl)
 have q6 : w1.cell? ⟨w.heap.size, 6, none⟩ = some (.int .i64 m.scope) := (cell_of_heap m1 6).trans (by rw [← HA.out]; rfl)
 have q7 : w1.cell? ⟨w.heap.size, 7, none⟩ = some (.int .i64 m.deref) := (cell_of_heap m1 7).trans (by rw [← HA.out]; rfl)
 have q8 : w1.cell? ⟨w.heap.size, 8, none⟩ = some (.int .i64 m.size) := (cell_of_heap m1 8).trans (by rw [← HA.out]; rfl)
 have q9 : w1.cell? ⟨w.heap.size, 9, none⟩ = some (.int .i64 m.time) := (cell_of_heap m1 9).trans (by rw [← HA.out]; rfl)
 have q10 : w1.cell? ⟨w.heap.size, 10, none⟩ = some (.bool m.types) := (cell_of_heap m1 10).trans (by rw [← HA.out]; rfl)
 have q15 : w1.cell? ⟨w.heap.size, 15, none⟩ = some (.string ⟨m.newRdn.toArray⟩) := (cell_of_heap m1 15).trans (by rw [← HA.out]; rfl)
 have q16 : w1.cell? ⟨w.heap.size, 16, none⟩ = some (.string ⟨m.newSup.toArray⟩) := (cell_of_heap m1 16).trans (by rw [← HA.out]; rfl)
 have q19 : w1.cell? ⟨w.heap.size, 19, none⟩ = some (.string ⟨m.typ.toArray⟩) := (cell_of_heap m1 19).trans (by rw [← HA.out]; rfl)
 have q17 : w1.cell? ⟨w.heap.size, 17, none⟩ = some (.bool m.delOld) := (cell_of_heap m1 17).trans (by rw [← HA.out]; rfl)
 have q18 : w1.cell? ⟨w.heap.size, 18, none⟩ = some (.bool m.hasSup) := (cell_of_heap m1 18).trans (by rw [← HA.out]; rfl)
 have q20 : w1.cell? ⟨w.heap.size, 20, none⟩ = some (.string ⟨m.value.toArray⟩) := (cell_of_heap m1 20).trans (by rw [← HA.out]; rfl)
 have q21 : w1.cell? ⟨w.heap.size, 21, none⟩ = some (.string ⟨m.oid.toArray⟩) := (cell_of_heap m1 21).trans (by rw [← HA.out]; rfl)
 have q22 : w1.cell? ⟨w.heap.size, 22, none⟩ = some (.bool m.has) := (cell_of_heap m1 22).trans (by rw [← HA.out]; rfl)
 have q23 : w1.cell? ⟨w.heap.size, 23, none⟩ = some (.int .i64 m.target) := (cell_of_heap m1 23).trans (by rw [← HA.out]; rfl)
 have q24 : w1.cell? ⟨w.heap.size, 24, none⟩ = some (.int .i64 m.code) := (cell_of_heap m1 24).trans (by rw [← HA.out]; rfl)
 have q25 : w1.cell? ⟨w.heap.size, 25, none⟩ = some (.string ⟨m.matched.toArray⟩) := (cell_of_heap m1 25).trans (by rw [← HA.out]; rfl)
 have q26 : w1.cell? ⟨w.heap.size, 26, none⟩ = some (.string ⟨m.text.toArray⟩) := (cell_of_heap m1 26).trans (by rw [← HA.out]; rfl)
 clear m1
 go_upto_region 1 with fail
 refine wp_region_list ?_
 iterate 62 (refine wpList_plain rfl fun K hK => ?_; go_simp; refine hK _ _ ?_; clear hK K)
 clear q3 q2 q4 q5 q6 q7 q8 q9 q10 q15 q16 q19 q17 q18 q20 q21 q22 q23 q24 q25 q26
 refine wpList_plain rfl fun K hK => ?_
 go_simp
 rw [HP1.out]
 refine hK _ _ ?_; clear hK K
 have b2 := below_row b1 (g := w.heap.size + 1) (by omega) P
 have t2 := setRow_heap w1 (w.heap.size + 1) _ P _ _ t1
 refine wpList_storeRow rfl 73 (.tmp 2) (.tmp 65) rfl (w.heap.size + 1) 73 _ P (by rfl) (by rfl) t1 (by rw [HP2.out]; rfl) (by rw [HP2.out]; rfl) HP3.out ?_
 generalize w1.setRow (w.heap.size + 1) P = w2 at b2 t2 ⊢
 clear b1 t1
 go_simp
 go_wp2_with fail
 refine bodyPost_ret (v := .agg P) ?_ rfl ⟨rfl, b2⟩
 have hr := run_loadVar_row (P := Tryz.prog) w2 (w.heap.size + 1) 73 73 P (0, 0) (.array 16 20) t2 (show Tryz.prog.underlying 73 = _ from by rfl) (by rfl) (by rw [HP2.out]; rfl)
 simp [results, Tryz.f41]
 exact hr
section
variable {P : Program} (w : World)
theorem eqItems_refl (d : Nat) (e : TypeId) (c : Nat) (xs : Array Value) : ∀ is : List Nat, (∀ i, i ∈ is → ∃ x, (part e xs (i * c)).run P w = .ok x w ∧ (Op.equalIn d e x x).run P w = .ok true w) → (Op.eqItems d e c xs xs is).run P w = .ok true w
 | [], _ => by simp [Op.eqItems]
 | i :: is, h => by
  obtain ⟨x, h1, h2⟩ := h i (by simp)
  have ih := eqItems_refl d e c xs is (fun j hj => h j (List.mem_cons_of_mem _ hj))
  simp [Op.eqItems, h1, h2, ih]
theorem equalIn_iface (d : Nat) {t tx : TypeId} {v : Value} {ms : Array (String × TypeId)} {i : TypeInfo} (hu : P.underlying t = some (.interface ms)) (hi : P.info? tx = some i) (hc : i.comparable = true) (h : (Op.equalIn d tx v v).run P w = .ok true w) :
  (Op.equalIn (d + 1) t (.iface tx v) (.iface tx v)).run P w = .ok true w := by
 simp [Op.equalIn, run_underlying hu, typeInfo, hi, hc, h]
theorem part_plain {e : TypeId} {xs : Array Value} {off : Nat} {v : Value} {k : TypeDesc} (hu : P.underlying e = some k) (hk : (match k with | .struct _ | .array _ _ => false | _ => true) = true) (hx : xs[off]? = some v) : (part e xs off).run P w = .ok v w := by
 cases k <;> simp at hk <;> simp [part, isAgg, run_underlying hu, hx]
end
set_option maxRecDepth 100000 in
theorem comparable_any (t : TypeId) (ht : t = 3 ∨ t = 9 ∨ t = 4 ∨ t = 118 ∨ t = 120 ∨ t = 119) : ∃ i, Tryz.prog.info? t = some i ∧ i.comparable = true := by
 rcases ht with rfl | rfl | rfl | rfl | rfl | rfl
 all_goals exact ⟨_, rfl, rfl⟩
theorem callee2 (args : Array Value) (w : World) : (callFunc 116 args).run Tryz.prog w = .ok (.enter 116 args) w := by go_simp
set_option maxRecDepth 100000 in
set_option maxHeartbeats 4000000 in
theorem Write_of (N : Nat) (hN : LenOk N) (A : Array Value) (hsz : A.size = 28) (el : El) (hs : SmE el) (hz : sizeE el ≤ N) (w : World)
  (hval : ∀ w', Below w.heap.size w w' → Calls Tryz.prog 14 #[.agg A] w' fun e w'' => e = .returned (.bool true) ∧ Below w'.heap.size w' w'')
  (hel : ∀ w', Below w.heap.size w w' → Calls Tryz.prog 31 #[.agg A] w' fun e w'' => (∃ u, e = .returned (.agg (elA el u)) ∧ KidsAt (fun g => w'.heap.size ≤ g) w'' u el.kids) ∧ Below w'.heap.size w' w'') :
  Calls Tryz.prog 12 #[.agg A] w fun e w' => e = .returned (.tuple #[.string ⟨(writeE el).1.toArray⟩, .int .i64 (writeE el).2]) ∧ Below w.heap.size w w' := by
 obtain ⟨B, hB⟩ : ∃ B, (writeE el).1.toArray = B := ⟨_, rfl⟩
 obtain ⟨c, hc⟩ : ∃ c, (writeE el).2 = c := ⟨_, rfl⟩
 have kb := fun (u : Value) (w : World) (h : KidsAt (fun _ => True) w u el.kids) => BWrite_any N hN el hs hz u w h
 rw [hB, hc] at kb ⊢
 have KB := hid kb
 have HZ := hid hsz
 clear kb hB hc hs hz hsz
 have b1 : Below w.heap.size w (w.alloc (.cells A 28)) := (Below.refl _ _).alloc (Nat.le_refl _) _
 have m1 : (w.alloc (.cells A 28)).heap[w.heap.size]? = some (.cells A 28 (0, 0)) := alloc_at _ _ _ rfl
 have HV := hid hval
 have HE := hid hel
 clear hval hel
 go_enter Tryz.func12, Tryz.ntmps12
 go_upto_region 1 with fail
 generalize w.alloc (.cells A 28) = w1 at b1 m1 ⊢
 have kv := HV.out w1 b1
 go_wp2_with (refine wpList_loadRow rfl 28 (.tmp 1) rfl w.heap.size 28 _ (0, 0) (by rfl) m1 _ Tryz.underlying28 rfl (by rw [HZ.out]; rfl) ?_)
 refine Calls.mono kv ?_
 rintro e w2 ⟨rfl, hb⟩
 have m2 := (hb.block _ (gl m1)).trans m1
 have b2 := b1.trans (hb.mono b1.size)
 clear kv HV hb m1 b1
 have ke := HE.out w2 b2
 go_wp2_with (refine wpList_loadRow rfl 28 (.tmp 1) rfl w.heap.size 28 _ (0, 0) (by rfl) m2 _ Tryz.underlying28 rfl (by rw [HZ.out]; rfl) ?_)
 refine Calls.mono ke ?_
 rintro e w3 ⟨⟨u, rfl, hu⟩, hb⟩
 have b3 := b2.trans (hb.mono b2.size)
 clear ke HE hb m2 b2
 have kb := KB.out u w3 (hu.mono fun _ _ _ => trivial)
 clear KB hu
 go_wp2_with fail
 refine Calls.mono kb ?_
 rintro e w4 ⟨rfl, hb⟩
 have b4 := b3.trans (hb.mono b3.size)
 clear kb hb b3
 go_wp2_with fail
 refine bodyPost_ret (v := .tuple #[.string ⟨B⟩, .int .i64 c]) ?_ rfl ⟨rfl, b4⟩
 simp [results, Tryz.f12]
set_option maxRecDepth 100000 in
theorem delop_any (b : Nat) (A : Array Value) (dn : List UInt8) (w : World) (hb : w.heap[b]? = some (.cells A 28 (0, 0))) (h2 : A[2]? = some (.string ⟨dn.toArray⟩)) :
  Calls Tryz.prog 123 #[.pointer (some ⟨b, 0, none⟩)] w fun e w' => e = .returned (.agg (elA (.mk 0 4 false dn []) (.slice none 0 0))) ∧ Below w.heap.size w w' := by
 have b1 : Below w.heap.size w (w.alloc (.cells Ze 45)) := (Below.refl _ _).alloc (Nat.le_refl _) _
 have t1 : (w.alloc (.cells Ze 45)).heap[w.heap.size]? = some (.cells Ze 45 (0, 0)) := alloc_at _ _ _ rfl
 have m1 := (b1.block _ (gl hb)).trans hb
 have q2 := (cell_of_heap m1 2).trans h2
 have ks := mstr_any dn (w.alloc (.cells Ze 45))
 clear hb h2 m1
 go_enter Tryz.func123, Tryz.ntmps123
 go_wp2_with fail
 generalize w.alloc (.cells Ze 45) = w1 at b1 t1 q2 ks ⊢
 refine Calls.mono ks ?_
 rintro e w2 ⟨rfl, hb2⟩
 have t2 := (hb2.block _ (gl t1)).trans t1
 have b2 := b1.trans (hb2.mono b1.size)
 clear ks q2 t1 b1 hb2
 obtain ⟨E, hE⟩ : ∃ E, elA (.mk 0 4 false dn []) (.slice none 0 0) = E := ⟨_, rfl⟩
 have hE1 : E.all (·.oneCell') = true := by rw [← hE]; simp [elA, Value.oneCell']
 have hE2 : E.size = 5 := by rw [← hE]; rfl
 rw [hE]
 have b3 := below_row b2 (g := w.heap.size) (Nat.le_refl _) E
 have t3 := setRow_heap w2 w.heap.size _ E _ _ t2
 have HE := hid hE
 have HE1 := hid hE1
 have HE2 := hid hE2
 clear hE hE1 hE2
 go_wp2_with (refine wpList_storeRow rfl 45 (.tmp 1) (.tmp 4) rfl w.heap.size 45 _ E (by rfl) (by rfl) t2 (by rw [HE2.out]; rfl) (by rw [HE2.out]; rfl) HE1.out ?_)
 refine bodyPost_ret (v := .agg E) ?_ rfl ⟨by rw [HE.out], b3⟩
 have hr := run_loadVar_row (P := Tryz.prog) (w2.setRow w.heap.size E) w.heap.size 45 45 E (0, 0) _ t3 (show Tryz.prog.underlying 45 = _ from Tryz.underlying45) (by rfl) (by rw [HE2.out]; rfl)
 simp [results, Tryz.f123]
 exact hr
theorem callee5 (args : Array Value) (w : World) : (callFunc 123 args).run Tryz.prog w = .ok (.enter 123 args) w := by go_simp
def letB (c : UInt8) : Bool := (decide (97 ≤ c.toNat) && decide (c.toNat ≤ 122)) || (decide (65 ≤ c.toNat) && decide (c.toNat ≤ 90))
def digB (c : UInt8) : Bool := decide (48 ≤ c.toNat) && decide (c.toNat ≤ 57)
def inTyB (c : UInt8) : Bool := letB c || digB c || c == 45 || c == 46
def numB (n : List UInt8) : Bool := !n.isEmpty && !(decide (1 < n.length) && n.getD 0 0 == 48) && n.all digB
def oidB (s : List UInt8) : Bool := (split s [46]).all numB && decide (1 < (split s [46]).length)
def isTyB (s : List UInt8) : Bool :=
 if s = [] ∨ 64 < s.length then false
 else if letB (s.getD 0 0) then s.all (fun c => inTyB c && c != 46)
 else oidB s
end Go.Proofs.YthjaiigijbjloaaGreatDoor
