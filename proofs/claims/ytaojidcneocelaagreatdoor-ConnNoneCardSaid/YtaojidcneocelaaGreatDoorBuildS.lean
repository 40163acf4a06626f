/- A strings.Builder in a block of its own: its methods. (XBuildX, turned to the type itself.) -/
import Derived.Test.YtaojidcneocelaaGreatDoorGen
import Derived.Lib.Builder
import Derived.Lib.UnsafeStr
namespace Go.Proofs.YtaojidcneocelaaGreatDoor
open Go.RowKit Go.Lib

theorem Tryz.wBuilder : (Tryz.prog.info? 47).map (fun i => decide (i.size ≠ 0)) = some true := by kernel_rfl
theorem Tryz.wLies : liesAt Tryz.prog Tryz.prog.depth 47 (2 / Tryz.prog.cellsOf 47) 0 47 1 = true := by kernel_rfl
theorem Tryz.infoByte : (Tryz.prog.info? 5).map (fun i => (i.zero, i.size, i.bytes)) = some (some (.int .u8 0), 1, 1) := by kernel_rfl
theorem Tryz.cellsByte : Tryz.prog.cellsOf 5 = 1 := by kernel_rfl

set_option maxHeartbeats 1000000 in
set_option maxRecDepth 100000 in
theorem W_used (b : Nat) (w : World) (h0 : w.cell? ⟨b, 0, none⟩ = some (.pointer (some ⟨b, 0, none⟩))) :
    Calls Tryz.prog 50 #[.pointer (some ⟨b, 0, none⟩)] w fun e w' => e = .returned (.tuple #[]) ∧ w' = w := by
  obtain ⟨j, hj, _⟩ := Option.map_eq_some_iff.1 Tryz.wBuilder
  go_enter Tryz.func50, Tryz.ntmps50
  go_wp2
  rw [Lib.run_neq_ptr_same w _ Tryz.underlying44 hj]
  go_wp2
  go_end0
  exact ⟨rfl, rfl⟩

set_option maxHeartbeats 1000000 in
set_option maxRecDepth 100000 in
theorem W_fresh (b : Nat) (w : World) (h0 : w.cell? ⟨b, 0, none⟩ = some (.pointer none)) (hsh : w.shape? b = some (47, 2)) (hfz : w.frozen? ⟨b, 0, none⟩ = false) :
    Calls Tryz.prog 50 #[.pointer (some ⟨b, 0, none⟩)] w fun e w' => e = .returned (.tuple #[]) ∧ w' = w.setCell ⟨b, 0, none⟩ (.pointer (some ⟨b, 0, none⟩)) := by
  obtain ⟨j, hj, hjs⟩ := Option.map_eq_some_iff.1 Tryz.wBuilder
  have hjs2 := of_decide_eq_true hjs
  have r1 := Lib.run_to_unsafe (P := Tryz.prog) w ⟨b, 0, none⟩ Tryz.underlying44 Tryz.underlying118 hj hjs2 hsh (Nat.zero_lt_succ 1)
  have r2 := Lib.run_from_unsafe (P := Tryz.prog) w ⟨b, 0, none⟩ Tryz.underlying118 Tryz.underlying44 hj hsh Tryz.wLies
  clear hjs hjs2
  go_enter Tryz.func50, Tryz.ntmps50
  go_wp2
  rw [run_callFunc_extern Tryz.func83 (by kernel_rfl) (by kernel_rfl) (by kernel_rfl) (e := Extern.AbiNoEscape.same) (by kernel_rfl)]
  rw [Lib.run_noEscape]
  simp only [Result.andThen]
  rw [Oper.upon_value]
  go_wp2
  go_end0
  exact ⟨rfl, rfl⟩

/-- A writer whose builder lies in block b and holds these bytes. -/
def WAt (B b : Nat) (p : Value) (l : List UInt8) (w : World) : Prop := Lib.BuilderAt 47 5 B b p (bV l) w
def IsW (B b : Nat) (l : List UInt8) (w : World) : Prop := Lib.IsBuilder 47 5 B b (bV l) w

/-- All blocks but the writer's and its buffer stay: told by their elements' type. -/
def WKept (b : Nat) (w w' : World) : Prop := w.heap.size ≤ w'.heap.size ∧ ∀ (j : Nat) (cs : Array Value) (t : TypeId) (fz : Nat × Nat), w.heap[j]? = some (.cells cs t fz) → j ≠ b → t ≠ 5 → w'.heap[j]? = some (.cells cs t fz)
theorem WKept.refl (b : Nat) (w : World) : WKept b w w := ⟨Nat.le_refl _, fun _ _ _ _ h _ _ => h⟩
theorem WKept.trans {b : Nat} {x y z : World} (h : WKept b x y) (k : WKept b y z) : WKept b x z := ⟨Nat.le_trans h.1 k.1, fun j cs t fz hj hne ht => k.2 j cs t fz (h.2 j cs t fz hj hne ht) hne ht⟩
theorem WKept.of_below {b : Nat} {w w' : World} (h : Below w.heap.size w w') : WKept b w w' := ⟨h.size, fun j _ _ _ hj _ _ => (h.block j (Array.getElem?_eq_some_iff.1 hj).1).trans hj⟩
theorem WKept.set {b : Nat} {x w : World} (h : WKept b x w) (i : Nat) (v : Value) : WKept b x (w.setCell ⟨b, i, none⟩ v) :=
  ⟨by simpa using h.1, fun j cs t fz hj hne ht => (heap_setCell_other w ⟨b, i, none⟩ j v hne).trans (h.2 j cs t fz hj hne ht)⟩
theorem WKept.alloc {b : Nat} {x w : World} (h : WKept b x w) (o : Obj) : WKept b x (w.alloc o) := h.trans (WKept.of_below ((Below.refl _ _).alloc (Nat.le_refl _) o))
theorem WKept.grown {b B n : Nat} {x w w' : World} {v : Value} {xs : List Value} (h : WKept b x w) (ho : w.ownsRow B 5 1 v n xs) (hg : w.grownBy w' v.ownBlock) : WKept b x w' := by
  refine ⟨Nat.le_trans h.1 hg.size, fun j cs t fz hj hne ht => ?_⟩
  have h1 := h.2 j cs t fz hj hne ht
  rw [hg.block j (Array.getElem?_eq_some_iff.1 h1).1 ?_]
  · exact h1
  · intro e
    rcases ho.2 with ⟨hv, _⟩ | ⟨g, cap, cur, hv, _, hh, _⟩
    · rw [hv] at e; cases e
    · rw [hv] at e
      have e2 : j = g := Option.some.inj e
      subst e2
      rw [hh] at h1
      cases h1
      exact ht rfl
theorem W_copyCheck (B b : Nat) (l : List UInt8) (w : World) (h : IsW B b l w) :
    Calls Tryz.prog 50 #[.pointer (some ⟨b, 0, none⟩)] w fun e w' => e = .returned (.tuple #[]) ∧ (WAt B b (.pointer (some ⟨b, 0, none⟩)) l w' ∧ Below B w w' ∧ WKept b w w') := by
  rcases h with h | h
  · refine (W_fresh b w h.cell0 h.shape h.frozen0).mono ?_
    rintro e w' ⟨rfl, rfl⟩
    exact ⟨rfl, h.used _, (Below.refl B w).setCell (p := ⟨b, 0, none⟩) h.1 _, (WKept.refl b w).set 0 _⟩
  · refine (W_used b w h.cell0).mono ?_
    rintro e w' ⟨rfl, rfl⟩
    exact ⟨rfl, h, Below.refl B _, WKept.refl b _⟩

set_option maxHeartbeats 2000000 in
set_option maxRecDepth 100000 in
theorem W_WriteByte (B b : Nat) (l : List UInt8) (c : UInt8) (w : World) (h : IsW B b l w) (hlen : l.length ≤ 1099511627776) (hBw : B ≤ w.heap.size) :
    Calls Tryz.prog 93 #[.pointer (some ⟨b, 0, none⟩), .int .u8 (c.toNat : Int)] w fun e w' => e = .returned .nilIface ∧ (IsW B b (l ++ [c]) w' ∧ Below B w w' ∧ WKept b w w') := by
  obtain ⟨i0, hi, hz0, hz1, hz2⟩ := info_parts Tryz.infoByte
  have k1 := W_copyCheck B b l w h
  clear h
  go_enter Tryz.func93, Tryz.ntmps93
  go_wp2_with (go_at_call 50; refine k1.mono ?_)
  rintro e w1 ⟨rfl, h1, hb1, hkw1⟩
  obtain ⟨hB, v, hbk, hown, hne⟩ := h1
  rw [bV_length] at hown
  have c0 : w1.cell? ⟨b, 0, none⟩ = some (.pointer (some ⟨b, 0, none⟩)) := by rw [Lib.cell_of_heap hbk]; rfl
  have c1 : w1.cell? ⟨b, 1, none⟩ = some v := by rw [Lib.cell_of_heap hbk]; rfl
  go_wp2_with (at_builtin; refine wpList_append_own _ rfl _ _ 45 rfl B 5 i0 (.int .u8 0) 1 1 Tryz.underlying45 hi hz0 hz1 hz2 rfl (by decide) _ _ _ rfl (hown.alloc _) ⟨w1.heap.size, 0, none⟩ 1 1 [.int .u8 c.toNat] rfl rfl (cell_one_new _ _ _) ?c2 ?c3 ?c4 ?c5 ?_)
  case c2 => intro u hu; simp at hu; subst hu; rfl
  case c3 => unfold maxLen; omega
  case c4 => omega
  case c5 => have := hb1.size; simp; omega
  intro v' w2 hown' hgrow _
  have hlt : b < w1.heap.size := by
    rcases Nat.lt_or_ge b w1.heap.size with h' | h'
    · exact h'
    · simp [Array.getElem?_eq_none h'] at hbk
  have hb2 : w2.heap[b]? = some (.cells #[.pointer (some ⟨b, 0, none⟩), v] 47 (0, 0)) := by
    rw [hgrow.block b (by simp; omega) (fun e => hne e.symm), Lib.alloc_old w1 _ b hlt]
    exact hbk
  have d0 : w2.cell? ⟨b, 0, none⟩ = some (.pointer (some ⟨b, 0, none⟩)) := by rw [Lib.cell_of_heap hb2]; rfl
  have d1 : w2.cell? ⟨b, 1, none⟩ = some v := by rw [Lib.cell_of_heap hb2]; rfl
  have f1 : w2.frozen? ⟨b, 1, none⟩ = false := Lib.frozen_of_heap hb2 1
  obtain ⟨g, cap, rfl⟩ : ∃ g cap, v' = .slice (some ⟨g, 0, none⟩) (l.length + 1) cap := by
    rcases hown'.2 with ⟨_, h0⟩ | ⟨g, cap, cur, hv, _⟩
    · omega
    · exact ⟨g, cap, hv⟩
  go_wp2
  go_ret
  refine ⟨rfl, .inr ?_, ?_, ((hkw1.alloc _).grown (hown.alloc _) hgrow).set 1 _⟩
  · rw [bV_append]
    exact Lib.BuilderAt.put (T := 47) (e := 5) hB hb2 (bs' := bV l ++ [.int .u8 c.toNat]) (by simpa [bV_length] using hown') (by decide)
  · exact ((hb1.alloc (by have := hb1.size; omega) _).grown hgrow (by have := hb1.size; simp; omega) (fun k hk => (hown.lt k hk).1)).setCell (p := ⟨b, 1, none⟩) hB _

set_option maxHeartbeats 2000000 in
set_option maxRecDepth 100000 in
theorem W_WriteString (B b : Nat) (l s : List UInt8) (w : World) (h : IsW B b l w) (hlen : l.length ≤ 1099511627776) (hs : s.length ≤ 8796093022208) (hBw : B ≤ w.heap.size) :
    Calls Tryz.prog 35 #[.pointer (some ⟨b, 0, none⟩), .string ⟨s.toArray⟩] w fun e w' => e = .returned (.tuple #[.int .i64 s.length, .nilIface]) ∧ (IsW B b (l ++ s) w' ∧ Below B w w' ∧ WKept b w w') := by
  obtain ⟨i0, hi, hz0, hz1, hz2⟩ := info_parts Tryz.infoByte
  have k1 := W_copyCheck B b l w h
  clear h
  have hs2 : (⟨s.toArray⟩ : ByteArray).size = s.length := Lib.size_mk _
  go_enter Tryz.func35, Tryz.ntmps35
  go_wp2_with (go_at_call 50; refine k1.mono ?_)
  rintro e w1 ⟨rfl, h1, hb1, hkw1⟩
  obtain ⟨hB, v, hbk, hown, hne⟩ := h1
  rw [bV_length] at hown
  have c0 : w1.cell? ⟨b, 0, none⟩ = some (.pointer (some ⟨b, 0, none⟩)) := by rw [Lib.cell_of_heap hbk]; rfl
  have c1 : w1.cell? ⟨b, 1, none⟩ = some v := by rw [Lib.cell_of_heap hbk]; rfl
  go_wp2_with (at_builtin; refine Lib.wpList_append_own_string _ rfl _ _ 45 9 rfl B 5 i0 Tryz.underlying45 Tryz.underlying9 hi hz0 hz1 hz2 _ _ _ rfl hown ⟨s.toArray⟩ rfl ?c3 ?c4 ?c5 ?_)
  case c3 => unfold maxLen; omega
  case c4 => omega
  case c5 => have := hb1.size; omega
  intro v' w2 hown' hgrow _
  have hlt : b < w1.heap.size := by
    rcases Nat.lt_or_ge b w1.heap.size with h' | h'
    · exact h'
    · simp [Array.getElem?_eq_none h'] at hbk
  have hb2 : w2.heap[b]? = some (.cells #[.pointer (some ⟨b, 0, none⟩), v] 47 (0, 0)) := by
    rw [hgrow.block b hlt (fun e => hne e.symm)]
    exact hbk
  have d0 : w2.cell? ⟨b, 0, none⟩ = some (.pointer (some ⟨b, 0, none⟩)) := by rw [Lib.cell_of_heap hb2]; rfl
  have d1 : w2.cell? ⟨b, 1, none⟩ = some v := by rw [Lib.cell_of_heap hb2]; rfl
  have f1 : w2.frozen? ⟨b, 1, none⟩ = false := Lib.frozen_of_heap hb2 1
  obtain ⟨ao, n', cap, rfl⟩ : ∃ ao n' cap, v' = .slice ao n' cap := by
    rcases hown'.2 with ⟨hv, _⟩ | ⟨g, cap, cur, hv, _⟩
    · exact ⟨_, _, _, hv⟩
    · exact ⟨_, _, _, hv⟩
  go_wp2
  go_ret2
  refine ⟨rfl, .inr ?_, ?_, (hkw1.grown hown hgrow).set 1 _⟩
  · rw [bV_append]
    exact Lib.BuilderAt.put (T := 47) (e := 5) hB hb2 (bs' := bV l ++ bV s) (by simpa [bV_length, strCells_bV] using hown') (by decide)
  · exact (hb1.grown hgrow (by have := hb1.size; omega) (fun k hk => (hown.lt k hk).1)).setCell (p := ⟨b, 1, none⟩) hB _

set_option maxHeartbeats 1000000 in
set_option maxRecDepth 100000 in
theorem W_String (B b : Nat) (l : List UInt8) (w : World) (h : IsW B b l w) (h0 : l ≠ []) :
    Calls Tryz.prog 27 #[.pointer (some ⟨b, 0, none⟩)] w fun e w' => e = .returned (.string ⟨l.toArray⟩) ∧ Below B w w' := by
  obtain ⟨p, hB, v, hbk, hown, hne⟩ : ∃ p, WAt B b p l w := by
    rcases h with h | h
    · exact ⟨_, h⟩
    · exact ⟨_, h⟩
  have hl0 : l.length ≠ 0 := by simpa using h0
  rw [bV_length] at hown
  obtain ⟨g, cap, cur, rfl, hbg, hg, hnc, hcm, hcs, htake⟩ : ∃ g cap cur, v = .slice (some ⟨g, 0, none⟩) l.length cap ∧ B ≤ g ∧ w.heap[g]? = some (.cells cur 5 (0, 0)) ∧ l.length ≤ cap ∧ cap ≤ maxLen ∧ cur.size = cap * 1 ∧ cur.toList.take (l.length * 1) = bV l := by
    rcases hown.2 with ⟨_, hz⟩ | ⟨g, cap, cur, hv, r⟩
    · exact absurd hz hl0
    · exact ⟨g, cap, cur, hv, r⟩
  have c1 : w.drew.cell? ⟨b, 1, none⟩ = some (.slice (some ⟨g, 0, none⟩) l.length cap) := by
    have : w.drew.heap[b]? = some (.cells #[p, .slice (some ⟨g, 0, none⟩) l.length cap] 47 (0, 0)) := hbk
    rw [Lib.cell_of_heap this]; rfl
  have hSD : (Builtin.unsafeSliceData_ #[45] 78 #[.slice (some ⟨g, 0, none⟩) l.length cap]).run Tryz.prog w.drew = .ok (.pointer (some ⟨g, 0, none⟩)) w.drew :=
    Lib.run_unsafeSliceData_row _ _ _ _ _ _ (by omega)
  have hUS : (Builtin.unsafeString_ #[78, 3] 9 #[.pointer (some ⟨g, 0, none⟩), .int .i64 l.length]).run Tryz.prog w.drew = .ok (.string ⟨l.toArray⟩) (w.drew.freeze ⟨g, 0, none⟩ l.length) := by
    refine Lib.run_unsafeString_row w.drew 78 3 9 5 Tryz.underlying78 Tryz.cellsByte g cur.size (by have hg' : w.drew.heap[g]? = some (.cells cur 5 (0, 0)) := hg; simp [World.shape?, hg']) l h0 (by omega) (by unfold maxLen at hcm; omega) ?_
    intro j x hx
    exact hown.cells (g := g) rfl j (.int .u8 x.toNat) (by simp [bV, hx])
  clear htake hcs hg h
  go_enter Tryz.func27, Tryz.ntmps27
  go_wp2
  go_region
  all_goals (go_wp2; go_ret; exact ⟨rfl, Lib.below_freeze (Below.drew (Below.refl B w)) (p := ⟨g, 0, none⟩) hbg _⟩)
end Go.Proofs.YtaojidcneocelaaGreatDoor
