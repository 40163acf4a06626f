/- CfA, BaG, EqM. -/
import Derived.Test.YthjaiigijbjloaaGreatDoorQ35
import Derived.Test.YthjaiigijbjloaaGreatDoorQ36
import Derived.Test.YthjaiigijbjloaaGreatDoorQ37
import Derived.Test.YthjaiigijbjloaaGreatDoorQ38
import Derived.Test.YthjaiigijbjloaaGreatDoorQ39
namespace Go.Proofs.YthjaiigijbjloaaGreatDoor
open Go.RowKit Go.Lib
set_option maxRecDepth 100000 in
theorem modbad_any (x : Md) (u : Value) (w : World) : Calls Tryz.prog 92 #[.agg #[.int .i64 x.1, .string ⟨x.2.1.toArray⟩, u]] w fun e w' => e = .returned (.bool (!rngB x.1 2)) ∧ Below w.heap.size w w' := by
 have b1 : Below w.heap.size w (w.alloc (.cells #[.int .i64 x.1, .string ⟨x.2.1.toArray⟩, u] 58)) := (Below.refl _ _).alloc (Nat.le_refl _) _
 have m1 : (w.alloc (.cells #[.int .i64 x.1, .string ⟨x.2.1.toArray⟩, u] 58)).heap[w.heap.size]? = some (.cells #[.int .i64 x.1, .string ⟨x.2.1.toArray⟩, u] 58 (0, 0)) := alloc_at _ _ _ rfl
 go_enter Tryz.func92, Tryz.ntmps92
 go_upto_region 1 with fail
 generalize w.alloc (.cells #[.int .i64 x.1, .string ⟨x.2.1.toArray⟩, u] 58) = w1 at b1 m1 ⊢
 have q0 : w1.cell? ⟨w.heap.size, 0, none⟩ = some (.int .i64 x.1) := (cell_of_heap m1 0).trans rfl
 have kr := inRange_any x.1 2 w1
 go_wp2_with fail
 refine Calls.mono kr ?_
 rintro e w2 ⟨rfl, hw⟩
 rw [hw]
 clear hw kr
 go_wp2_with fail
 go_ret
 exact ⟨rfl, b1⟩
def ctBad (x : Ct) : Bool := !x.has && !x.value.isEmpty
set_option maxRecDepth 100000 in
theorem ctlbad_any (x : Ct) (w : World) : Calls Tryz.prog 43 #[.agg #[.string ⟨x.oid.toArray⟩, .bool x.crit, .bool x.has, .string ⟨x.value.toArray⟩]] w fun e w' => e = .returned (.bool (ctBad x)) ∧ Below w.heap.size w w' := by
 obtain ⟨oid, crit, has, value⟩ := x
 unfold ctBad
 simp only
 obtain ⟨B, hB⟩ : ∃ B, value.isEmpty = B := ⟨_, rfl⟩
 have b1 : Below w.heap.size w (w.alloc (.cells #[.string ⟨oid.toArray⟩, .bool crit, .bool has, .string ⟨value.toArray⟩] 62)) := (Below.refl _ _).alloc (Nat.le_refl _) _
 have m1 : (w.alloc (.cells #[.string ⟨oid.toArray⟩, .bool crit, .bool has, .string ⟨value.toArray⟩] 62)).heap[w.heap.size]? = some (.cells #[.string ⟨oid.toArray⟩, .bool crit, .bool has, .string ⟨value.toArray⟩] 62 (0, 0)) := alloc_at _ _ _ rfl
 rw [hB]
 cases has
 ·go_enter Tryz.func43, Tryz.ntmps43
  go_upto_region 1 with fail
  generalize w.alloc (.cells #[.string ⟨oid.toArray⟩, .bool crit, .bool false, .string ⟨value.toArray⟩] 62) = w1 at b1 m1 ⊢
  have q2 : w1.cell? ⟨w.heap.size, 2, none⟩ = some (.bool false) := (cell_of_heap m1 2).trans rfl
  have q3 : w1.cell? ⟨w.heap.size, 3, none⟩ = some (.string ⟨value.toArray⟩) := (cell_of_heap m1 3).trans rfl
  go_wp2_with fail
  go_ret
  exact ⟨by rw [← hB]; rfl, b1⟩
 ·go_enter Tryz.func43, Tryz.ntmps43
  go_upto_region 1 with fail
  generalize w.alloc (.cells #[.string ⟨oid.toArray⟩, .bool crit, .bool true, .string ⟨value.toArray⟩] 62) = w1 at b1 m1 ⊢
  have q2 : w1.cell? ⟨w.heap.size, 2, none⟩ = some (.bool true) := (cell_of_heap m1 2).trans rfl
  go_wp2_with fail
  go_ret
  exact ⟨rfl, b1⟩
def Cfmods (w : World) (l : List Md) (i : Value) (wr : World) : Prop :=
 ∃ k : Nat, i = .int .i64 (k : Int) ∧ k ≤ l.length ∧ (l.take k).any (fun x => !rngB x.1 2) = false ∧ Below w.heap.size w wr
set_option maxRecDepth 100000 in
set_option maxHeartbeats 2000000 in
theorem index_mods (v : Value) (l : List Md) (w : World) (h : MdsM w v l) (hl : l.length ≤ 1000000000) : Calls Tryz.prog 133 #[v, .func (.func 92) #[] #[]] w fun e w' => (∃ i : Int, e = .returned (.int .i64 i) ∧ decide (0 ≤ i) = l.any (fun x => !rngB x.1 2)) ∧ Below w.heap.size w w' := by
 obtain ⟨a, cap, rfl, hcap, hcells⟩ := h
 have HC := hid hcells
 clear hcells
 go_enter Tryz.func133, Tryz.ntmps133
 go_wp2_with fail
 go_loopw [5, 8] (fun _ i wr => Cfmods w l i wr) (fun _ i _ => l.length - (RowKit.intOf i).toNat)
 case atStart => exact ⟨0, rfl, Nat.zero_le _, by simp, Below.refl _ _⟩
 case round =>
  obtain ⟨k, rfl, hk, hno, hbe⟩ := hrel
  by_cases hkl : k < l.length
  ·obtain ⟨x, hx⟩ : ∃ x, l[k]? = some x := ⟨_, by simp [hkl]; rfl⟩
   obtain ⟨g, o, ha, hc⟩ := HC.out (by intro h0; rw [h0] at hkl; simp at hkl)
   subst ha
   obtain ⟨p0, p1, u, p2, -⟩ := hc k x hx
   have q0 := (hbe.cell (lt_of_cell p0)).trans p0
   have q1 := (hbe.cell (lt_of_cell p1)).trans p1
   have q2 := (hbe.cell (lt_of_cell p2)).trans p2
   have i1 : decide ((k : Int) < (l.length : Int)) = true := decide_eq_true (by omega)
   have i2 : (k : Int) < (l.length : Int) := by omega
   have hts : (l.take (k + 1)).any (fun x => !rngB x.1 2) = (!rngB x.1 2) := by rw [List.take_add_one, hx, List.any_append, hno]; simp
   have hmem : x ∈ l := List.mem_of_getElem? hx
   have HTS := hid hts
   have HNO := hid hno
   clear hc hx hts hno
   have kc := modbad_any x u wr
   obtain ⟨B, hB⟩ : ∃ B, (!rngB x.1 2) = B := ⟨_, rfl⟩
   rw [hB] at kc
   have HBB := hid hB
   clear hB
   go_wp2_with fail
   refine Calls.mono kc ?_
   rintro e w2 ⟨rfl, hb2⟩
   have b2 := hbe.trans (hb2.mono hbe.size)
   clear kc hb2 hbe
   cases B
   ·go_wp2_with fail
    exact ⟨⟨k + 1, by go_num, by omega, by rw [HTS.out, HBB.out], b2⟩, by simp [RowKit.intOf]; omega⟩
   ·go_wp2_with fail
    go_ret
    exact ⟨⟨_, rfl, by rw [List.any_eq_true.2 ⟨x, hmem, HBB.out⟩]; exact decide_eq_true (by omega)⟩, b2⟩
  ·obtain rfl : k = l.length := by omega
   rw [List.take_of_length_le (Nat.le_refl _)] at hno
   have HNO := hid hno
   clear hno
   go_wp2_with fail
   go_ret
   exact ⟨⟨_, rfl, by rw [HNO.out]; rfl⟩, hbe⟩
set_option maxRecDepth 100000 in
theorem contains_mods (v : Value) (l : List Md) (w : World) (h : MdsM w v l) (hl : l.length ≤ 1000000000) : Calls Tryz.prog 91 #[v, .func (.func 92) #[] #[]] w fun e w' => e = .returned (.bool (l.any (fun x => !rngB x.1 2))) ∧ Below w.heap.size w w' := by
 have k := index_mods v l w h hl
 clear h
 go_enter Tryz.func91, Tryz.ntmps91
 go_wp2_with fail
 refine Calls.mono k ?_
 rintro e w1 ⟨⟨i, rfl, hi⟩, hb⟩
 clear k
 have HI := hid hi
 clear hi
 go_wp2_with fail
 go_ret
 exact ⟨by rw [← HI.out]; try rfl, hb⟩
def Cfctls (w : World) (l : List Ct) (i : Value) (wr : World) : Prop :=
 ∃ k : Nat, i = .int .i64 (k : Int) ∧ k ≤ l.length ∧ (l.take k).any (fun x => ctBad x) = false ∧ Below w.heap.size w wr
set_option maxRecDepth 100000 in
set_option maxHeartbeats 2000000 in
theorem index_ctls (v : Value) (l : List Ct) (w : World) (h : CtsM w v l) (hl : l.length ≤ 1000000000) : Calls Tryz.prog 94 #[v, .func (.func 43) #[] #[]] w fun e w' => (∃ i : Int, e = .returned (.int .i64 i) ∧ decide (0 ≤ i) = l.any (fun x => ctBad x)) ∧ Below w.heap.size w w' := by
 obtain ⟨a, cap, rfl, hcap, hcells⟩ := h
 have HC := hid hcells
 clear hcells
 go_enter Tryz.func94, Tryz.ntmps94
 go_wp2_with fail
 go_loopw [5, 8] (fun _ i wr => Cfctls w l i wr) (fun _ i _ => l.length - (RowKit.intOf i).toNat)
 case atStart => exact ⟨0, rfl, Nat.zero_le _, by simp, Below.refl _ _⟩
 case round =>
  obtain ⟨k, rfl, hk, hno, hbe⟩ := hrel
  by_cases hkl : k < l.length
  ·obtain ⟨x, hx⟩ : ∃ x, l[k]? = some x := ⟨_, by simp [hkl]; rfl⟩
   obtain ⟨g, o, ha, hc⟩ := HC.out (by intro h0; rw [h0] at hkl; simp at hkl)
   subst ha
   obtain ⟨p0, p1, p2, p3⟩ := hc k x hx
   have q0 := (hbe.cell (lt_of_cell p0)).trans p0
   have q1 := (hbe.cell (lt_of_cell p1)).trans p1
   have q2 := (hbe.cell (lt_of_cell p2)).trans p2
   have q3 := (hbe.cell (lt_of_cell p3)).trans p3
   have i1 : decide ((k : Int) < (l.length : Int)) = true := decide_eq_true (by omega)
   have i2 : (k : Int) < (l.length : Int) := by omega
   have hts : (l.take (k + 1)).any (fun x => ctBad x) = (ctBad x) := by rw [List.take_add_one, hx, List.any_append, hno]; simp
   have hmem : x ∈ l := List.mem_of_getElem? hx
   have HTS := hid hts
   have HNO := hid hno
   clear hc hx hts hno
   have kc := ctlbad_any x wr
   obtain ⟨B, hB⟩ : ∃ B, (ctBad x) = B := ⟨_, rfl⟩
   rw [hB] at kc
   have HBB := hid hB
   clear hB
   go_wp2_with fail
   refine Calls.mono kc ?_
   rintro e w2 ⟨rfl, hb2⟩
   have b2 := hbe.trans (hb2.mono hbe.size)
   clear kc hb2 hbe
   cases B
   ·go_wp2_with fail
    exact ⟨⟨k + 1, by go_num, by omega, by rw [HTS.out, HBB.out], b2⟩, by simp [RowKit.intOf]; omega⟩
   ·go_wp2_with fail
    go_ret
    exact ⟨⟨_, rfl, by rw [List.any_eq_true.2 ⟨x, hmem, HBB.out⟩]; exact decide_eq_true (by omega)⟩, b2⟩
  ·obtain rfl : k = l.length := by omega
   rw [List.take_of_length_le (Nat.le_refl _)] at hno
   have HNO := hid hno
   clear hno
   go_wp2_with fail
   go_ret
   exact ⟨⟨_, rfl, by rw [HNO.out]; rfl⟩, hbe⟩
set_option maxRecDepth 100000 in
theorem contains_ctls (v : Value) (l : List Ct) (w : World) (h : CtsM w v l) (hl : l.length ≤ 1000000000) : Calls Tryz.prog 42 #[v, .func (.func 43) #[] #[]] w fun e w' => e = .returned (.bool (l.any (fun x => ctBad x))) ∧ Below w.heap.size w w' := by
 have k := index_ctls v l w h hl
 clear h
 go_enter Tryz.func42, Tryz.ntmps42
 go_wp2_with fail
 refine Calls.mono k ?_
 rintro e w1 ⟨⟨i, rfl, hi⟩, hb⟩
 clear k
 have HI := hid hi
 clear hi
 go_wp2_with fail
 go_ret
 exact ⟨by rw [← HI.out]; try rfl, hb⟩
theorem bare_any (m : Mg) (l : Ls) (w : World) (hm : MgM w m l) (hl : l.mods.length ≤ 1000000000)
  (kf : m.op = 3 → ∀ w' : World, Below w.heap.size w w' → Calls Tryz.prog 90 #[m.filt] w' fun e w2 => e = .returned (.bool (filtB l.filt)) ∧ Below w'.heap.size w' w2) :
  Calls Tryz.prog 39 #[.agg (Mg.row m)] w fun e w' => e = .returned (.tuple #[.agg (Mg.row (bareM m)), .bool (kindB m l)]) ∧ Below w.heap.size w w' := by
 by_cases h0 : m.op = 0
 ·exact bare_bind_g m l w hm h0
 by_cases h2 : m.op = 2
 ·exact bare_unbind_g m l w hm h2
 by_cases h3 : m.op = 3
 ·exact bare_search_g m l w hm h3 (kf h3)
 by_cases h6 : m.op = 6
 ·exact bare_modify_g m l w hm h6 (fun w' hb => (contains_mods m.mods l.mods w' (hm.mods.below hb) hl).mono fun e w2 h => ⟨by rw [h.1]; congr 2; induction l.mods with
   | nil => rfl
   | cons x r ih => simp only [List.any_cons, List.all_cons, ih]; cases rngB x.1 2 <;> rfl, h.2⟩)
 by_cases h8 : m.op = 8
 ·exact bare_add_g m l w hm h8
 by_cases h4 : m.op = 4
 ·exact bare_entry_g m l w hm h4
 by_cases h10 : m.op = 10
 ·exact bare_delete_g m l w hm h10
 by_cases h12 : m.op = 12
 ·exact bare_move_g m l w hm h12
 by_cases h14 : m.op = 14
 ·exact bare_compare_g m l w hm h14
 by_cases h16 : m.op = 16
 ·exact bare_abandon_g m l w hm h16
 by_cases h23 : m.op = 23
 ·exact bare_extend_g m l w hm h23
 by_cases h24 : m.op = 24
 ·exact bare_extended_g m l w hm h24
 by_cases hr : m.op ∈ isResL
 ·exact bare_result_g m l w hm hr h24
 ·exact bare_other_g m l w hm hr (by simp only [List.mem_cons, List.not_mem_nil, or_false, not_or]; exact ⟨h0, h2, h3, h6, h8, h4, h10, h12, h14, h16, h23⟩)
theorem ba_beq (a b : List UInt8) : ((⟨a.toArray⟩ : ByteArray).toList == (⟨b.toArray⟩ : ByteArray).toList) = decide (a = b) := by
 simp only [ByteArray.toList_eq]
 by_cases h : a = b
 ·subst h; simp
 ·rw [decide_eq_false h]; simpa using h
section
variable {P : Program} (w : World)
theorem eqItems_dec (d : Nat) (e : TypeId) (c : Nat) (xs ys : Array Value) (bs : Nat → Bool) : ∀ is : List Nat, (∀ i, i ∈ is → ∃ x y, (part e xs (i * c)).run P w = .ok x w ∧ (part e ys (i * c)).run P w = .ok y w ∧ (Op.equalIn d e x y).run P w = .ok (bs i) w) → (Op.eqItems d e c xs ys is).run P w = .ok (is.all bs) w
 | [], _ => by simp [Op.eqItems]
 | i :: is, h => by
  obtain ⟨x, y, h1, h2, h3⟩ := h i (by simp)
  have ih := eqItems_dec d e c xs ys bs is (fun j hj => h j (List.mem_cons_of_mem _ hj))
  cases hb : bs i
  ·rw [hb] at h3; simp [Op.eqItems, h1, h2, h3, hb]
  ·rw [hb] at h3; simp [Op.eqItems, h1, h2, h3, hb, ih]
theorem equalIn_iface2 (d : Nat) {t tx : TypeId} {v u : Value} {ms : Array (String × TypeId)} {i : TypeInfo} {b : Bool} (hu : P.underlying t = some (.interface ms)) (hi : P.info? tx = some i) (hc : i.comparable = true) (h : (Op.equalIn d tx v u).run P w = .ok b w) :
  (Op.equalIn (d + 1) t (.iface tx v) (.iface tx u)).run P w = .ok b w := by
 simp [Op.equalIn, run_underlying hu, typeInfo, hi, hc, h]
end
theorem beq_dec (a b : Bool) : (a == b) = decide (a = b) := by cases a <;> cases b <;> rfl
set_option maxRecDepth 100000 in
theorem equal_s3 (d : Nat) (a0 a1 a2 b0 b1 b2 : List UInt8) (w : World) : (Op.equalIn (d + 2) 118 (.agg #[.string ⟨a0.toArray⟩, .string ⟨a1.toArray⟩, .string ⟨a2.toArray⟩]) (.agg #[.string ⟨b0.toArray⟩, .string ⟨b1.toArray⟩, .string ⟨b2.toArray⟩])).run Tryz.prog w = .ok (decide (a0 = b0) && decide (a1 = b1) && decide (a2 = b2)) w := by
 obtain ⟨i, hi⟩ : ∃ i, Tryz.prog.info? 9 = some i := ⟨_, rfl⟩
 have hc : Tryz.prog.cellsOf 9 = 1 := by kernel_rfl
 have hu : Tryz.prog.underlying 9 = some .string := by rfl
 rw [run_equalIn_array (n := 3) (e := 9) w (d + 1) _ _ (by rfl) hi, hc]
 rw [eqItems_dec w _ _ _ _ _ (fun i => [decide (a0 = b0), decide (a1 = b1), decide (a2 = b2)].getD i true) _ (fun j hj => ?_)]
 ·simp [List.range_succ, Bool.and_assoc]
 have h3 : j < 3 := by simpa using hj
 have h4 : j = 0 ∨ j = 1 ∨ j = 2 := by omega
 rcases h4 with rfl | rfl | rfl
 ·exact ⟨.string ⟨a0.toArray⟩, .string ⟨b0.toArray⟩, part_plain w hu rfl rfl, part_plain w hu rfl rfl, by rw [run_equalIn_string w d _ _ _ hu, ba_beq]; rfl⟩
 ·exact ⟨.string ⟨a1.toArray⟩, .string ⟨b1.toArray⟩, part_plain w hu rfl rfl, part_plain w hu rfl rfl, by rw [run_equalIn_string w d _ _ _ hu, ba_beq]; rfl⟩
 ·exact ⟨.string ⟨a2.toArray⟩, .string ⟨b2.toArray⟩, part_plain w hu rfl rfl, part_plain w hu rfl rfl, by rw [run_equalIn_string w d _ _ _ hu, ba_beq]; rfl⟩
set_option maxRecDepth 100000 in
theorem equal_s2 (d : Nat) (a0 a1 b0 b1 : List UInt8) (w : World) : (Op.equalIn (d + 2) 120 (.agg #[.string ⟨a0.toArray⟩, .string ⟨a1.toArray⟩]) (.agg #[.string ⟨b0.toArray⟩, .string ⟨b1.toArray⟩])).run Tryz.prog w = .ok (decide (a0 = b0) && decide (a1 = b1)) w := by
 obtain ⟨i, hi⟩ : ∃ i, Tryz.prog.info? 9 = some i := ⟨_, rfl⟩
 have hc : Tryz.prog.cellsOf 9 = 1 := by kernel_rfl
 have hu : Tryz.prog.underlying 9 = some .string := by rfl
 rw [run_equalIn_array (n := 2) (e := 9) w (d + 1) _ _ (by rfl) hi, hc]
 rw [eqItems_dec w _ _ _ _ _ (fun i => [decide (a0 = b0), decide (a1 = b1)].getD i true) _ (fun j hj => ?_)]
 ·simp [List.range_succ, Bool.and_assoc]
 have h3 : j < 2 := by simpa using hj
 have h4 : j = 0 ∨ j = 1 := by omega
 rcases h4 with rfl | rfl
 ·exact ⟨.string ⟨a0.toArray⟩, .string ⟨b0.toArray⟩, part_plain w hu rfl rfl, part_plain w hu rfl rfl, by rw [run_equalIn_string w d _ _ _ hu, ba_beq]; rfl⟩
 ·exact ⟨.string ⟨a1.toArray⟩, .string ⟨b1.toArray⟩, part_plain w hu rfl rfl, part_plain w hu rfl rfl, by rw [run_equalIn_string w d _ _ _ hu, ba_beq]; rfl⟩
set_option maxRecDepth 100000 in
theorem equal_b2 (d : Nat) (a0 a1 b0 b1 : Bool) (w : World) : (Op.equalIn (d + 2) 119 (.agg #[.bool a0, .bool a1]) (.agg #[.bool b0, .bool b1])).run Tryz.prog w = .ok (decide (a0 = b0) && decide (a1 = b1)) w := by
 obtain ⟨i, hi⟩ : ∃ i, Tryz.prog.info? 4 = some i := ⟨_, rfl⟩
 have hc : Tryz.prog.cellsOf 4 = 1 := by kernel_rfl
 have hu : Tryz.prog.underlying 4 = some .bool := by rfl
 rw [run_equalIn_array (n := 2) (e := 4) w (d + 1) _ _ (by rfl) hi, hc]
 rw [eqItems_dec w _ _ _ _ _ (fun i => [decide (a0 = b0), decide (a1 = b1)].getD i true) _ (fun j hj => ?_)]
 ·simp [List.range_succ, Bool.and_assoc]
 have h3 : j < 2 := by simpa using hj
 have h4 : j = 0 ∨ j = 1 := by omega
 rcases h4 with rfl | rfl
 ·exact ⟨.bool a0, .bool b0, part_plain w hu rfl rfl, part_plain w hu rfl rfl, by rw [run_equalIn_bool' w d _ _ _ hu, beq_dec]; rfl⟩
 ·exact ⟨.bool a1, .bool b1, part_plain w hu rfl rfl, part_plain w hu rfl rfl, by rw [run_equalIn_bool' w d _ _ _ hu, beq_dec]; rfl⟩
def plEq (a b : Mg) : Bool := [decide (a.ver = b.ver), decide (a.dn = b.dn), decide (a.sasl = b.sasl), decide (a.secret = b.secret), decide (a.scope = b.scope), decide (a.deref = b.deref), decide (a.size = b.size), decide (a.time = b.time), decide (a.types = b.types), (decide (a.newRdn = b.newRdn) && decide (a.newSup = b.newSup) && decide (a.typ = b.typ)), (decide (a.delOld = b.delOld) && decide (a.hasSup = b.hasSup)), (decide (a.value = b.value) && decide (a.oid = b.oid)), decide (a.has = b.has), decide (a.target = b.target), decide (a.code = b.code), (decide (a.matched = b.matched) && decide (a.text = b.text))].all id
set_option maxRecDepth 100000 in
theorem equal_pv2 (a b : Mg) (w : World) : (Op.equal 73 (.agg a.pv) (.agg b.pv)).run Tryz.prog w = .ok (plEq a b) w := by
 obtain ⟨i, hi⟩ : ∃ i, Tryz.prog.info? 20 = some i := ⟨_, rfl⟩
 have hc : Tryz.prog.cellsOf 20 = 1 := by kernel_rfl
 have hu : Tryz.prog.underlying 20 = some (.interface #[]) := by rfl
 have key : ∀ d, (Op.equalIn (d + 4) 73 (.agg a.pv) (.agg b.pv)).run Tryz.prog w = .ok (plEq a b) w := by
  intro d
  rw [run_equalIn_array (n := 16) (e := 20) w (d + 3) _ _ (by rfl) hi, hc]
  rw [eqItems_dec w _ _ _ _ _ (fun i => [decide (a.ver = b.ver), decide (a.dn = b.dn), decide (a.sasl = b.sasl), decide (a.secret = b.secret), decide (a.scope = b.scope), decide (a.deref = b.deref), decide (a.size = b.size), decide (a.time = b.time), decide (a.types = b.types), (decide (a.newRdn = b.newRdn) && decide (a.newSup = b.newSup) && decide (a.typ = b.typ)), (decide (a.delOld = b.delOld) && decide (a.hasSup = b.hasSup)), (decide (a.value = b.value) && decide (a.oid = b.oid)), decide (a.has = b.has), decide (a.target = b.target), decide (a.code = b.code), (decide (a.matched = b.matched) && decide (a.text = b.text))].getD i true) _ (fun j hj => ?_)]
  ·simp [List.range_succ, plEq, Bool.and_assoc]
  have h3 : j < 16 := by simpa using hj
  have h4 : j = 0 ∨ j = 1 ∨ j = 2 ∨ j = 3 ∨ j = 4 ∨ j = 5 ∨ j = 6 ∨ j = 7 ∨ j = 8 ∨ j = 9 ∨ j = 10 ∨ j = 11 ∨ j = 12 ∨ j = 13 ∨ j = 14 ∨ j = 15 := by omega
  have hs : ∀ a b : List UInt8, (Op.equalIn (d + 2) 9 (.string ⟨a.toArray⟩) (.string ⟨b.toArray⟩)).run Tryz.prog w = .ok (decide (a = b)) w := fun a b => by rw [run_equalIn_string w (d + 1) _ _ _ (by rfl), ba_beq]
  have hn : ∀ a b : Int, (Op.equalIn (d + 2) 3 (.int .i64 a) (.int .i64 b)).run Tryz.prog w = .ok (decide (a = b)) w := fun a b => by rw [run_equalIn_int w (d + 1) _ _ .i64 _ _ (by rfl)]; rfl
  have hb : ∀ a b : Bool, (Op.equalIn (d + 2) 4 (.bool a) (.bool b)).run Tryz.prog w = .ok (decide (a = b)) w := fun a b => by rw [run_equalIn_bool' w (d + 1) _ _ _ (by rfl), beq_dec]
  rcases h4 with rfl | rfl | rfl | rfl | rfl | rfl | rfl | rfl | rfl | rfl | rfl | rfl | rfl | rfl | rfl | rfl
  ·obtain ⟨i, h1, h2⟩ := comparable_any 3 (by simp)
   exact ⟨_, _, part_plain w hu rfl rfl, part_plain w hu rfl rfl, equalIn_iface2 w (d + 2) hu h1 h2 (hn _ _)⟩
  ·obtain ⟨i, h1, h2⟩ := comparable_any 9 (by simp)
   exact ⟨_, _, part_plain w hu rfl rfl, part_plain w hu rfl rfl, equalIn_iface2 w (d + 2) hu h1 h2 (hs _ _)⟩
  ·obtain ⟨i, h1, h2⟩ := comparable_any 4 (by simp)
   exact ⟨_, _, part_plain w hu rfl rfl, part_plain w hu rfl rfl, equalIn_iface2 w (d + 2) hu h1 h2 (hb _ _)⟩
  ·obtain ⟨i, h1, h2⟩ := comparable_any 9 (by simp)
   exact ⟨_, _, part_plain w hu rfl rfl, part_plain w hu rfl rfl, equalIn_iface2 w (d + 2) hu h1 h2 (hs _ _)⟩
  ·obtain ⟨i, h1, h2⟩ := comparable_any 3 (by simp)
   exact ⟨_, _, part_plain w hu rfl rfl, part_plain w hu rfl rfl, equalIn_iface2 w (d + 2) hu h1 h2 (hn _ _)⟩
  ·obtain ⟨i, h1, h2⟩ := comparable_any 3 (by simp)
   exact ⟨_, _, part_plain w hu rfl rfl, part_plain w hu rfl rfl, equalIn_iface2 w (d + 2) hu h1 h2 (hn _ _)⟩
  ·obtain ⟨i, h1, h2⟩ := comparable_any 3 (by simp)
   exact ⟨_, _, part_plain w hu rfl rfl, part_plain w hu rfl rfl, equalIn_iface2 w (d + 2) hu h1 h2 (hn _ _)⟩
  ·obtain ⟨i, h1, h2⟩ := comparable_any 3 (by simp)
   exact ⟨_, _, part_plain w hu rfl rfl, part_plain w hu rfl rfl, equalIn_iface2 w (d + 2) hu h1 h2 (hn _ _)⟩
  ·obtain ⟨i, h1, h2⟩ := comparable_any 4 (by simp)
   exact ⟨_, _, part_plain w hu rfl rfl, part_plain w hu rfl rfl, equalIn_iface2 w (d + 2) hu h1 h2 (hb _ _)⟩
  ·obtain ⟨i, h1, h2⟩ := comparable_any 118 (by simp)
   exact ⟨_, _, part_plain w hu rfl rfl, part_plain w hu rfl rfl, equalIn_iface2 w (d + 2) hu h1 h2 (equal_s3 d _ _ _ _ _ _ w)⟩
  ·obtain ⟨i, h1, h2⟩ := comparable_any 119 (by simp)
   exact ⟨_, _, part_plain w hu rfl rfl, part_plain w hu rfl rfl, equalIn_iface2 w (d + 2) hu h1 h2 (equal_b2 d _ _ _ _ w)⟩
  ·obtain ⟨i, h1, h2⟩ := comparable_any 120 (by simp)
   exact ⟨_, _, part_plain w hu rfl rfl, part_plain w hu rfl rfl, equalIn_iface2 w (d + 2) hu h1 h2 (equal_s2 d _ _ _ _ w)⟩
  ·obtain ⟨i, h1, h2⟩ := comparable_any 4 (by simp)
   exact ⟨_, _, part_plain w hu rfl rfl, part_plain w hu rfl rfl, equalIn_iface2 w (d + 2) hu h1 h2 (hb _ _)⟩
  ·obtain ⟨i, h1, h2⟩ := comparable_any 3 (by simp)
   exact ⟨_, _, part_plain w hu rfl rfl, part_plain w hu rfl rfl, equalIn_iface2 w (d + 2) hu h1 h2 (hn _ _)⟩
  ·obtain ⟨i, h1, h2⟩ := comparable_any 3 (by simp)
   exact ⟨_, _, part_plain w hu rfl rfl, part_plain w hu rfl rfl, equalIn_iface2 w (d + 2) hu h1 h2 (hn _ _)⟩
  ·obtain ⟨i, h1, h2⟩ := comparable_any 120 (by simp)
   exact ⟨_, _, part_plain w hu rfl rfl, part_plain w hu rfl rfl, equalIn_iface2 w (d + 2) hu h1 h2 (equal_s2 d _ _ _ _ w)⟩
 exact key 9996
end Go.Proofs.YthjaiigijbjloaaGreatDoor
