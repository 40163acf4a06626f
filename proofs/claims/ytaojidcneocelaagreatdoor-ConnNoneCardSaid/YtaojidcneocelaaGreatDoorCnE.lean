/- slices.Delete of the one message of a row; conn: drop. (Written by gencne.py.) -/
import Derived.Test.YtaojidcneocelaaGreatDoorCnD
import Derived.Deep.MidRow
namespace Go.Proofs.YtaojidcneocelaaGreatDoor
open Go.RowKit Go.Lib

theorem run_clear1 (g cap : Nat) (cur : Array Value) (w : World) (hg : w.heap[g]? = some (.cells cur 32 (0, 0))) (hc : 28 ≤ cur.size) :
    ∃ X : Array Value, ∀ ty, (Builtin.clear_ #[41] ty #[.slice (some ⟨g, 0, none⟩) 1 cap]).run Tryz.prog w = .ok (.tuple #[]) (w.setRow g X) := by
  have hz : (zeroValue 32).run Tryz.prog w = .ok (.agg #[.int .i64 0, .int .i64 0, .string ⟨#[]⟩, .int .i64 0, .bool false, .string ⟨#[]⟩, .int .i64 0, .int .i64 0, .int .i64 0, .int .i64 0, .bool false, .slice none 0 0, .slice none 0 0, .slice none 0 0, .slice none 0 0, .string ⟨#[]⟩, .string ⟨#[]⟩, .bool false, .bool false, .string ⟨#[]⟩, .string ⟨#[]⟩, .string ⟨#[]⟩, .bool false, .int .i64 0, .int .i64 0, .string ⟨#[]⟩, .string ⟨#[]⟩, .slice none 0 0]) w := by go_simp
  have hzc : (Builtin.zeroCells (Value.agg #[.int .i64 0, .int .i64 0, .string ⟨#[]⟩, .int .i64 0, .bool false, .string ⟨#[]⟩, .int .i64 0, .int .i64 0, .int .i64 0, .int .i64 0, .bool false, .slice none 0 0, .slice none 0 0, .slice none 0 0, .slice none 0 0, .string ⟨#[]⟩, .string ⟨#[]⟩, .bool false, .bool false, .string ⟨#[]⟩, .string ⟨#[]⟩, .string ⟨#[]⟩, .bool false, .int .i64 0, .int .i64 0, .string ⟨#[]⟩, .string ⟨#[]⟩, .slice none 0 0]).cells 1).toList = (#[.int .i64 0, .int .i64 0, .string ⟨#[]⟩, .int .i64 0, .bool false, .string ⟨#[]⟩, .int .i64 0, .int .i64 0, .int .i64 0, .int .i64 0, .bool false, .slice none 0 0, .slice none 0 0, .slice none 0 0, .slice none 0 0, .string ⟨#[]⟩, .string ⟨#[]⟩, .bool false, .bool false, .string ⟨#[]⟩, .string ⟨#[]⟩, .string ⟨#[]⟩, .bool false, .int .i64 0, .int .i64 0, .string ⟨#[]⟩, .string ⟨#[]⟩, .slice none 0 0] : Array Value).toList := by kernel_rfl
  have hst := run_storeCells_at (P := Tryz.prog) g 0 32 (#[.int .i64 0, .int .i64 0, .string ⟨#[]⟩, .int .i64 0, .bool false, .string ⟨#[]⟩, .int .i64 0, .int .i64 0, .int .i64 0, .int .i64 0, .bool false, .slice none 0 0, .slice none 0 0, .slice none 0 0, .slice none 0 0, .string ⟨#[]⟩, .string ⟨#[]⟩, .bool false, .bool false, .string ⟨#[]⟩, .string ⟨#[]⟩, .string ⟨#[]⟩, .bool false, .int .i64 0, .int .i64 0, .string ⟨#[]⟩, .string ⟨#[]⟩, .slice none 0 0] : Array Value).toList 0 cur w hg (by simpa using hc) (by simp [Value.oneCell'])
  refine ⟨(cur.toList.take (0 + 0) ++ (#[.int .i64 0, .int .i64 0, .string ⟨#[]⟩, .int .i64 0, .bool false, .string ⟨#[]⟩, .int .i64 0, .int .i64 0, .int .i64 0, .int .i64 0, .bool false, .slice none 0 0, .slice none 0 0, .slice none 0 0, .slice none 0 0, .string ⟨#[]⟩, .string ⟨#[]⟩, .bool false, .bool false, .string ⟨#[]⟩, .string ⟨#[]⟩, .string ⟨#[]⟩, .bool false, .int .i64 0, .int .i64 0, .string ⟨#[]⟩, .string ⟨#[]⟩, .slice none 0 0] : Array Value).toList ++ cur.toList.drop (0 + 0 + (#[.int .i64 0, .int .i64 0, .string ⟨#[]⟩, .int .i64 0, .bool false, .string ⟨#[]⟩, .int .i64 0, .int .i64 0, .int .i64 0, .int .i64 0, .bool false, .slice none 0 0, .slice none 0 0, .slice none 0 0, .slice none 0 0, .string ⟨#[]⟩, .string ⟨#[]⟩, .bool false, .bool false, .string ⟨#[]⟩, .string ⟨#[]⟩, .string ⟨#[]⟩, .bool false, .int .i64 0, .int .i64 0, .string ⟨#[]⟩, .string ⟨#[]⟩, .slice none 0 0] : Array Value).toList.length)).toArray, fun ty => ?_⟩
  simp only [Builtin.clear_, List.getElem?_toArray, List.getElem?_cons_zero, Sem.run_bind, run_underlying (show Tryz.prog.underlying 41 = some (.slice 32) by kernel_rfl), Result.andThen, hz, hzc, hst]
  rfl
theorem exec_slice1 {ρ : Operand → Value} {o : Oper} {y z : Operand} {g cap : Nat} {w : World} (h : o.op = .slice 41 y (some z) none none) (hy : ρ y = .slice (some ⟨g, 0, none⟩) 1 cap) (hz : ρ z = .int .i64 1) (hn : 1 ≤ cap) :
    (execOp ρ o).run Tryz.prog w = .ok (.value (.slice (some (if cap = 1 then ⟨g, 0, none⟩ else ⟨g, 28, none⟩)) 0 (cap - 1))) w := by
  obtain ⟨dst, op, ty, pos, after, guard⟩ := o
  simp only at h
  subst h
  by_cases hc : cap = 1
  · subst hc
    go_simp
  · have h1 : ((1 : Int) ≤ (cap : Int)) := by omega
    have hc' : ¬ ((cap : Int) = 1) := by omega
    go_simp
theorem run_append0 (g cap : Nat) (b : Addr) (c : Nat) (ty : TypeId) (w : World) :
    (Builtin.append_ #[41, 41] ty #[.slice (some ⟨g, 0, none⟩) 0 cap, .slice (some b) 0 c]).run Tryz.prog w = .ok (.slice (some ⟨g, 0, none⟩) 0 cap) w := by
  obtain ⟨i0, hi0, hz0, hz1, hz2⟩ := info_parts Tryz.infoMessage
  simp [Builtin.append_, run_underlying (show Tryz.prog.underlying 41 = some (.slice 32) by kernel_rfl), sizeOf, typeInfo, hi0, Builtin.lenOf, Builtin.firstCells, loadCells, loadCellsFrom, storeCells, Result.andThen]
set_option maxRecDepth 100000 in
theorem Delete_one (B g cap : Nat) (xs : List Value) (w : World) (h : w.ownsRow B 32 28 (.slice (some ⟨g, 0, none⟩) 1 cap) 1 xs) :
    Calls Tryz.prog 38 #[.slice (some ⟨g, 0, none⟩) 1 cap, .int .i64 0, .int .i64 1] w fun e w' => e = .returned (.slice (some ⟨g, 0, none⟩) 0 cap) ∧ BelR g w.heap.size w w' := by
  obtain ⟨cur, hg, hn, hm, hcs⟩ : ∃ cur, w.heap[g]? = some (.cells cur 32 (0, 0)) ∧ 1 ≤ cap ∧ cap ≤ maxLen ∧ cur.size = cap * 28 := by
    rcases h.2 with ⟨h0, _⟩ | ⟨g', cap', cur, hv, _, hg, hn, hm, hcs, _⟩
    · cases h0
    · cases hv
      exact ⟨cur, hg, hn, hm, hcs⟩
  obtain ⟨X, hcl⟩ := run_clear1 g cap cur w.drew hg (by omega)
  have hap := fun b c ty w => run_append0 g cap b c ty w
  have hbe : BelR g w.heap.size w (w.drew.setRow g X) := by
    refine ⟨rfl, rfl, rfl, by simp [World.setRow], fun j hj hne => setRow_other w.drew g j _ hne⟩
  have HB := Lib.hid hbe
  clear hbe
  generalize w.drew.setRow g X = wz at hcl HB
  clear hg hcs h
  have c1 : decide ((1 : Int) ≤ (cap : Int)) = true := decide_eq_true (by omega)
  go_enter Tryz.func38, Tryz.ntmps38
  go_upto_region 5 with fail
  refine wp_region_held (S := fun _ => True) (by kernel_rfl) ?_
  change wpAnyH _ _ _ _ _ _ _ _ w.drew
  generalize w.drew = w1 at hcl ⊢
  have T := trivial
  refine anyH_take 0 (.slice (some ⟨g, 0, none⟩) 1 cap) rfl (by kernel_rfl) (by kernel_rfl) (by kernel_rfl) (fun _ _ _ h => h) (by rfl) (fun w' hS => by go_simp) T (fun K hK => ?_); go_simp; refine hK _ _ ?_; clear hK K
  refine anyH_take 1 (.int .i64 0) rfl (by kernel_rfl) (by kernel_rfl) (by kernel_rfl) (fun _ _ _ h => h) (by rfl) (fun w' hS => by go_simp) T (fun K hK => ?_); go_simp; refine hK _ _ ?_; clear hK K
  refine anyH_take 2 (.slice (some ⟨g, 0, none⟩) 0 cap) rfl (by kernel_rfl) (by kernel_rfl) (by kernel_rfl) (fun _ _ _ h => h) (by rfl) (fun w' hS => by go_simp) T (fun K hK => ?_); go_simp; refine hK _ _ ?_; clear hK K
  refine anyH_take 3 (.slice (some ⟨g, 0, none⟩) 1 cap) rfl (by kernel_rfl) (by kernel_rfl) (by kernel_rfl) (fun _ _ _ h => h) (by rfl) (fun w' hS => by go_simp) T (fun K hK => ?_); go_simp; refine hK _ _ ?_; clear hK K
  refine anyH_take 4 (.int .i64 1) rfl (by kernel_rfl) (by kernel_rfl) (by kernel_rfl) (fun _ _ _ h => h) (by rfl) (fun w' hS => by go_simp) T (fun K hK => ?_); go_simp; refine hK _ _ ?_; clear hK K
  refine anyH_take 5 (.slice (some (if cap = 1 then ⟨g, 0, none⟩ else ⟨g, 28, none⟩)) 0 (cap - 1)) rfl (by kernel_rfl) (by kernel_rfl) (by kernel_rfl) (fun _ _ _ h => h) (by rfl) (fun w' hS => exec_slice1 rfl rfl rfl hn) T (fun K hK => ?_); go_simp; refine hK _ _ ?_; clear hK K
  generalize (if cap = 1 then (⟨g, 0, none⟩ : Addr) else ⟨g, 28, none⟩) = ad
  refine anyH_one 6 (by kernel_rfl) rfl (by rfl) (fun K hK => ?_); go_simp; refine hK _ _ T ?_; clear hK K
  refine anyH_one 7 (by kernel_rfl) rfl (by rfl) (fun K hK => ?_); go_simp; refine hK _ _ T ?_; clear hK K
  refine wpAnyH_done (by kernel_rfl) ?_ _
  simp only [Exit.then]
  refine ‹∀ (a : Act) (w : World), Code.wp _ _ _ a w → _› _ _ ?_
  clear hap
  go_wp2_with fail
  go_ret
  exact ⟨rfl, HB.out⟩
/-- All blocks but some stay. -/
structure BelP (P : Nat → Prop) (w w' : World) : Prop where
  os : w'.os = w.os
  tape : w'.tape = w.tape
  output : w'.output = w.output
  size : w.heap.size ≤ w'.heap.size
  block : ∀ j, j < w.heap.size → ¬ P j → w'.heap[j]? = w.heap[j]?
theorem BelP.of_below {P : Nat → Prop} {w w' : World} (h : Below w.heap.size w w') : BelP P w w' := ⟨h.os, h.tape, h.output, h.size, fun j hj _ => h.block j hj⟩
theorem BelP.of_belR {P : Nat → Prop} {R : Nat} {w w' : World} (h : BelR R w.heap.size w w') (hR : P R) : BelP P w w' := ⟨h.os, h.tape, h.output, h.size, fun j hj hp => h.block j hj (fun e => hp (e ▸ hR))⟩
theorem BelP.trans {P : Nat → Prop} {a b c : World} (h : BelP P a b) (k : BelP P b c) : BelP P a c :=
  ⟨k.os.trans h.os, k.tape.trans h.tape, k.output.trans h.output, Nat.le_trans h.size k.size, fun j hj hp => (k.block j (Nat.lt_of_lt_of_le hj h.size) hp).trans (h.block j hj hp)⟩
theorem BelP.set {P : Nat → Prop} {a w : World} (h : BelP P a w) {p : Addr} (hp : P p.block ∨ a.heap.size ≤ p.block) (u : Value) : BelP P a (w.setCell p u) :=
  ⟨h.os, h.tape, h.output, by simpa [World.setCell] using h.size, fun j hj hn => (Below.heap_setCell w p u j (by rcases hp with q | q; exact (fun e => hn (e ▸ q)); omega)).trans (h.block j hj hn)⟩
theorem BelP.row {P : Nat → Prop} {a w : World} (h : BelP P a w) {g : Nat} (hp : a.heap.size ≤ g) (cs : Array Value) : BelP P a (w.setRow g cs) :=
  ⟨h.os, h.tape, h.output, by simpa [World.setRow] using h.size, fun j hj hn => (setRow_other w g j cs (by omega)).trans (h.block j hj hn)⟩
theorem BelP.alloc {P : Nat → Prop} {a w : World} (h : BelP P a w) (o : Obj) : BelP P a (w.alloc o) :=
  h.trans (BelP.of_below ((Below.refl _ _).alloc (Nat.le_refl _) o))
theorem run_del1 (r : Nat) (k : Int) (val : Value) (born c : Nat) (ty : TypeId) (w : World) (hb : w.heap[r]? = some (.map #[{ key := .int .i64 k, val := val, born := born }] c)) :
    (Builtin.delete_ #[42, 3] ty #[.map (some r), .int .i64 k]).run Tryz.prog w = .ok (.tuple #[]) { w with heap := w.heap.setIfInBounds r (.map #[] c) } := by
  have hkey : ∀ j : Int, MapKept.IsKey (.int .i64) (.int .i64 j) := fun j => by simp [MapKept.IsKey]
  have hk : Tryz.prog.underlying 3 = some (.int .i64) := by kernel_rfl
  have hc : (Instr.checkKey false 10000 3 (.int .i64 k)).run Tryz.prog w = .ok () w := MapKept.run_checkKey (k := .int .i64 k) hk (hkey k) false 9999
  have hf : Instr.findNow (.int .i64) (.int .i64 k) [({ key := .int .i64 k, val := val, born := born } : MapEntry)] 0 = some (some (0, val)) := by simp [Instr.findNow, Instr.sameNow]
  simp [Builtin.delete_, run_underlying (show Tryz.prog.underlying 42 = some (.map 3 86) by kernel_rfl), MapKept.run_getObj_map hb, hc, MapKept.run_findKey hk hf, MapKept.run_setObj_map _ hb, Result.andThen]
set_option maxRecDepth 100000 in
set_option maxHeartbeats 4000000 in
theorem drop_one (B C : Nat) (inn : List UInt8) (ticks : Int) (w : World) (g cap r : Nat) (hW : WaitsAt B C inn (.pointer none) ticks w g cap r) :
    Calls Tryz.prog 21 #[.pointer (some ⟨C, 0, none⟩), .int .i64 0] w fun e w' => e = .returned (.agg #[.int .i64 1, .int .i64 10, .string ⟨#[100, 99, 61, 122]⟩, .int .i64 0, .bool false, .string ⟨#[]⟩, .int .i64 0, .int .i64 0, .int .i64 0, .int .i64 0, .bool false, .slice none 0 0, .slice none 0 0, .slice none 0 0, .slice none 0 0, .string ⟨#[]⟩, .string ⟨#[]⟩, .bool false, .bool false, .string ⟨#[]⟩, .string ⟨#[]⟩, .string ⟨#[]⟩, .bool false, .int .i64 0, .int .i64 0, .string ⟨#[]⟩, .string ⟨#[]⟩, .slice none 0 0]) ∧ w'.heap[C]? = some (.cells (connR inn (.slice (some ⟨g, 0, none⟩) 0 cap) (.map (some r)) (.pointer none) ticks) 49 (0, 0)) ∧ BelP (fun j => j = C ∨ j = g ∨ j = r) w w' := by
  obtain ⟨PR, hPR⟩ : ∃ PR : Ending → World → Prop, PR = fun e w' => e = .returned (.agg #[.int .i64 1, .int .i64 10, .string ⟨#[100, 99, 61, 122]⟩, .int .i64 0, .bool false, .string ⟨#[]⟩, .int .i64 0, .int .i64 0, .int .i64 0, .int .i64 0, .bool false, .slice none 0 0, .slice none 0 0, .slice none 0 0, .slice none 0 0, .string ⟨#[]⟩, .string ⟨#[]⟩, .bool false, .bool false, .string ⟨#[]⟩, .string ⟨#[]⟩, .string ⟨#[]⟩, .bool false, .int .i64 0, .int .i64 0, .string ⟨#[]⟩, .string ⟨#[]⟩, .slice none 0 0]) ∧ w'.heap[C]? = some (.cells (connR inn (.slice (some ⟨g, 0, none⟩) 0 cap) (.map (some r)) (.pointer none) ticks) 49 (0, 0)) ∧ BelP (fun j => j = C ∨ j = g ∨ j = r) w w' := ⟨_, rfl⟩
  rw [← hPR]
  have HPR := Lib.hid hPR
  clear hPR
  obtain ⟨hC, hown, ⟨born, cl, hr⟩, _⟩ := hW
  have hCl := (Array.getElem?_eq_some_iff.1 hC).1
  have hgb : ∃ cur, w.heap[g]? = some (.cells cur 32 (0, 0)) := by
    rcases hown.2 with ⟨h0, _⟩ | ⟨g', cap', cur, hv, _, hg, _⟩
    · cases h0
    · cases hv
      exact ⟨cur, hg⟩
  have hgC : g ≠ C := by
    obtain ⟨cur, hg⟩ := hgb
    intro h
    rw [h, hC] at hg
    simp only [Option.some.injEq, Obj.cells.injEq] at hg
    exact absurd hg.2.1 (by decide)
  have hrC : r ≠ C := by
    intro h
    rw [h, hC] at hr
    cases hr
  have hgr : g ≠ r := by
    obtain ⟨cur, hg⟩ := hgb
    intro h
    rw [← h, hg] at hr
    cases hr
  have hgl : g < w.heap.size := by
    obtain ⟨cur, hg⟩ := hgb
    exact (Array.getElem?_eq_some_iff.1 hg).1
  have hrl := (Array.getElem?_eq_some_iff.1 hr).1
  clear hgb
  obtain ⟨D, hD⟩ : ∃ D : Array Value, #[.int .i64 1, .int .i64 10, .string ⟨#[100, 99, 61, 122]⟩, .int .i64 0, .bool false, .string ⟨#[]⟩, .int .i64 0, .int .i64 0, .int .i64 0, .int .i64 0, .bool false, .slice none 0 0, .slice none 0 0, .slice none 0 0, .slice none 0 0, .string ⟨#[]⟩, .string ⟨#[]⟩, .bool false, .bool false, .string ⟨#[]⟩, .string ⟨#[]⟩, .string ⟨#[]⟩, .bool false, .int .i64 0, .int .i64 0, .string ⟨#[]⟩, .string ⟨#[]⟩, .slice none 0 0] = D := ⟨_, rfl⟩
  have hD1 : D.all (·.oneCell') = true := by rw [← hD]; simp [Value.oneCell']
  have hD2 : D.size = 28 := by rw [← hD]; rfl
  have hD0 : D[0]? = some (.int .i64 1) := by rw [← hD]; rfl
  rw [hD] at hown
  have HD := Lib.hid hD
  have HD0 := Lib.hid hD0
  have HD1 := Lib.hid hD1
  have HD2 := Lib.hid hD2
  clear hD hD0 hD1 hD2
  have b1 : Below w.heap.size w (w.alloc (.cells #[.int .i64 0, .int .i64 0, .string ⟨#[]⟩, .int .i64 0, .bool false, .string ⟨#[]⟩, .int .i64 0, .int .i64 0, .int .i64 0, .int .i64 0, .bool false, .slice none 0 0, .slice none 0 0, .slice none 0 0, .slice none 0 0, .string ⟨#[]⟩, .string ⟨#[]⟩, .bool false, .bool false, .string ⟨#[]⟩, .string ⟨#[]⟩, .string ⟨#[]⟩, .bool false, .int .i64 0, .int .i64 0, .string ⟨#[]⟩, .string ⟨#[]⟩, .slice none 0 0] 32)) := (Below.refl _ _).alloc (Nat.le_refl _) _
  have x1 : (w.alloc (.cells #[.int .i64 0, .int .i64 0, .string ⟨#[]⟩, .int .i64 0, .bool false, .string ⟨#[]⟩, .int .i64 0, .int .i64 0, .int .i64 0, .int .i64 0, .bool false, .slice none 0 0, .slice none 0 0, .slice none 0 0, .slice none 0 0, .string ⟨#[]⟩, .string ⟨#[]⟩, .bool false, .bool false, .string ⟨#[]⟩, .string ⟨#[]⟩, .string ⟨#[]⟩, .bool false, .int .i64 0, .int .i64 0, .string ⟨#[]⟩, .string ⟨#[]⟩, .slice none 0 0] 32)).heap[w.heap.size]? = some (.cells #[.int .i64 0, .int .i64 0, .string ⟨#[]⟩, .int .i64 0, .bool false, .string ⟨#[]⟩, .int .i64 0, .int .i64 0, .int .i64 0, .int .i64 0, .bool false, .slice none 0 0, .slice none 0 0, .slice none 0 0, .slice none 0 0, .string ⟨#[]⟩, .string ⟨#[]⟩, .bool false, .bool false, .string ⟨#[]⟩, .string ⟨#[]⟩, .string ⟨#[]⟩, .bool false, .int .i64 0, .int .i64 0, .string ⟨#[]⟩, .string ⟨#[]⟩, .slice none 0 0] 32 (0, 0)) := alloc_at _ _ _ rfl
  have C1 := (b1.block _ hCl).trans hC
  have o1 := own_below hown b1
  have r1 := (b1.block _ hrl).trans hr
  have z1 : (w.alloc (.cells #[.int .i64 0, .int .i64 0, .string ⟨#[]⟩, .int .i64 0, .bool false, .string ⟨#[]⟩, .int .i64 0, .int .i64 0, .int .i64 0, .int .i64 0, .bool false, .slice none 0 0, .slice none 0 0, .slice none 0 0, .slice none 0 0, .string ⟨#[]⟩, .string ⟨#[]⟩, .bool false, .bool false, .string ⟨#[]⟩, .string ⟨#[]⟩, .string ⟨#[]⟩, .bool false, .int .i64 0, .int .i64 0, .string ⟨#[]⟩, .string ⟨#[]⟩, .slice none 0 0] 32)).heap.size = w.heap.size + 1 := by simp
  have Z1 := Lib.hid z1
  clear z1 hown hC hr
  go_enter Tryz.func21, Tryz.ntmps21
  go_upto_region 1 with fail
  generalize w.alloc (.cells #[.int .i64 0, .int .i64 0, .string ⟨#[]⟩, .int .i64 0, .bool false, .string ⟨#[]⟩, .int .i64 0, .int .i64 0, .int .i64 0, .int .i64 0, .bool false, .slice none 0 0, .slice none 0 0, .slice none 0 0, .slice none 0 0, .string ⟨#[]⟩, .string ⟨#[]⟩, .bool false, .bool false, .string ⟨#[]⟩, .string ⟨#[]⟩, .string ⟨#[]⟩, .bool false, .int .i64 0, .int .i64 0, .string ⟨#[]⟩, .string ⟨#[]⟩, .slice none 0 0] 32) = w1 at b1 x1 C1 o1 r1 Z1 ⊢
  have c1 : w1.cell? ⟨C, 1, none⟩ = some (.slice (some ⟨g, 0, none⟩) 1 cap) := (Lib.cell_of_heap C1 1).trans rfl
  have hrng : w1.rangeAt g 0 D.toList := by
    intro j v hj
    rw [Nat.zero_add]
    exact (own_cell o1 hj).1
  have b2 := b1.alloc b1.size (.cells #[.int .i64 0, .int .i64 0, .string ⟨#[]⟩, .int .i64 0, .bool false, .string ⟨#[]⟩, .int .i64 0, .int .i64 0, .int .i64 0, .int .i64 0, .bool false, .slice none 0 0, .slice none 0 0, .slice none 0 0, .slice none 0 0, .string ⟨#[]⟩, .string ⟨#[]⟩, .bool false, .bool false, .string ⟨#[]⟩, .string ⟨#[]⟩, .string ⟨#[]⟩, .bool false, .int .i64 0, .int .i64 0, .string ⟨#[]⟩, .string ⟨#[]⟩, .slice none 0 0] 32)
  have y2 : (w1.alloc (.cells #[.int .i64 0, .int .i64 0, .string ⟨#[]⟩, .int .i64 0, .bool false, .string ⟨#[]⟩, .int .i64 0, .int .i64 0, .int .i64 0, .int .i64 0, .bool false, .slice none 0 0, .slice none 0 0, .slice none 0 0, .slice none 0 0, .string ⟨#[]⟩, .string ⟨#[]⟩, .bool false, .bool false, .string ⟨#[]⟩, .string ⟨#[]⟩, .string ⟨#[]⟩, .bool false, .int .i64 0, .int .i64 0, .string ⟨#[]⟩, .string ⟨#[]⟩, .slice none 0 0] 32)).heap[w1.heap.size]? = some (.cells #[.int .i64 0, .int .i64 0, .string ⟨#[]⟩, .int .i64 0, .bool false, .string ⟨#[]⟩, .int .i64 0, .int .i64 0, .int .i64 0, .int .i64 0, .bool false, .slice none 0 0, .slice none 0 0, .slice none 0 0, .slice none 0 0, .string ⟨#[]⟩, .string ⟨#[]⟩, .bool false, .bool false, .string ⟨#[]⟩, .string ⟨#[]⟩, .string ⟨#[]⟩, .bool false, .int .i64 0, .int .i64 0, .string ⟨#[]⟩, .string ⟨#[]⟩, .slice none 0 0] 32 (0, 0)) := alloc_at _ _ _ rfl
  have e2 := setRow_heap (w1.alloc (.cells #[.int .i64 0, .int .i64 0, .string ⟨#[]⟩, .int .i64 0, .bool false, .string ⟨#[]⟩, .int .i64 0, .int .i64 0, .int .i64 0, .int .i64 0, .bool false, .slice none 0 0, .slice none 0 0, .slice none 0 0, .slice none 0 0, .string ⟨#[]⟩, .string ⟨#[]⟩, .bool false, .bool false, .string ⟨#[]⟩, .string ⟨#[]⟩, .string ⟨#[]⟩, .bool false, .int .i64 0, .int .i64 0, .string ⟨#[]⟩, .string ⟨#[]⟩, .slice none 0 0] 32)) w1.heap.size _ D _ _ y2
  have g2 : Below w1.heap.size w1 ((w1.alloc (.cells #[.int .i64 0, .int .i64 0, .string ⟨#[]⟩, .int .i64 0, .bool false, .string ⟨#[]⟩, .int .i64 0, .int .i64 0, .int .i64 0, .int .i64 0, .bool false, .slice none 0 0, .slice none 0 0, .slice none 0 0, .slice none 0 0, .string ⟨#[]⟩, .string ⟨#[]⟩, .bool false, .bool false, .string ⟨#[]⟩, .string ⟨#[]⟩, .string ⟨#[]⟩, .bool false, .int .i64 0, .int .i64 0, .string ⟨#[]⟩, .string ⟨#[]⟩, .slice none 0 0] 32)).setRow w1.heap.size D) := below_row ((Below.refl _ _).alloc (Nat.le_refl _) _) (Nat.le_refl _) D
  have C2 := (g2.block _ (Array.getElem?_eq_some_iff.1 C1).1).trans C1
  have x2 := (g2.block _ (Array.getElem?_eq_some_iff.1 x1).1).trans x1
  have r2 := (g2.block _ (Array.getElem?_eq_some_iff.1 r1).1).trans r1
  have o2 := own_below o1 g2
  have B2 := b1.trans (g2.mono b1.size)
  have Y2 := Lib.hid y2
  have E2 := Lib.hid e2
  have HC2 := Lib.hid C2
  have HX2 := Lib.hid x2
  have HR2 := Lib.hid r2
  have HO2 := Lib.hid o2
  have HB2 := Lib.hid B2
  clear y2 e2 C2 x2 r2 o2 B2 g2 b2
  go_wp2_with (first
    | (refine wpList_load_mid rfl 32 (.tmp 11) rfl g 0 (by rfl) D.toList _ hrng Tryz.underlying32 rfl (by rw [Array.length_toList, HD2.out]; rfl) ?_; rw [Array.toArray_toList])
    | (refine wpList_storeRow rfl 32 (.tmp 5) (.tmp 12) rfl w1.heap.size 32 #[.int .i64 0, .int .i64 0, .string ⟨#[]⟩, .int .i64 0, .bool false, .string ⟨#[]⟩, .int .i64 0, .int .i64 0, .int .i64 0, .int .i64 0, .bool false, .slice none 0 0, .slice none 0 0, .slice none 0 0, .slice none 0 0, .string ⟨#[]⟩, .string ⟨#[]⟩, .bool false, .bool false, .string ⟨#[]⟩, .string ⟨#[]⟩, .string ⟨#[]⟩, .bool false, .int .i64 0, .int .i64 0, .string ⟨#[]⟩, .string ⟨#[]⟩, .slice none 0 0] D (by rfl) (by rfl) Y2.out (by rw [HD2.out]; rfl) (by rw [HD2.out]; rfl) HD1.out ?_; clear hrng c1 C1 o1 r1 x1; generalize ((w1.alloc (.cells #[.int .i64 0, .int .i64 0, .string ⟨#[]⟩, .int .i64 0, .bool false, .string ⟨#[]⟩, .int .i64 0, .int .i64 0, .int .i64 0, .int .i64 0, .bool false, .slice none 0 0, .slice none 0 0, .slice none 0 0, .slice none 0 0, .string ⟨#[]⟩, .string ⟨#[]⟩, .bool false, .bool false, .string ⟨#[]⟩, .string ⟨#[]⟩, .string ⟨#[]⟩, .bool false, .int .i64 0, .int .i64 0, .string ⟨#[]⟩, .string ⟨#[]⟩, .slice none 0 0] 32)).setRow w1.heap.size D) = w2 at E2 HC2 HX2 HR2 HO2 HB2 ⊢; clear Y2; have c1 : w2.cell? ⟨C, 1, none⟩ = some (.slice (some ⟨g, 0, none⟩) 1 cap) := (Lib.cell_of_heap HC2.out 1).trans rfl))
  have kd := Delete_one B g cap D.toList w2 HO2.out
  refine Calls.mono (show Calls _ _ _ _ _ from kd) ?_
  rintro e w3 ⟨rfl, hb3⟩
  have hw1s : w1.heap.size = w.heap.size + 1 := Z1.out
  have hs2 := HB2.out.size
  have C3 := (hb3.block C (Array.getElem?_eq_some_iff.1 HC2.out).1 (Ne.symm hgC)).trans HC2.out
  have x3 := (hb3.block w.heap.size (Array.getElem?_eq_some_iff.1 HX2.out).1 (by omega)).trans HX2.out
  have e3 := (hb3.block w1.heap.size (Array.getElem?_eq_some_iff.1 E2.out).1 (by omega)).trans E2.out
  have r3 := (hb3.block r (Array.getElem?_eq_some_iff.1 HR2.out).1 (Ne.symm hgr)).trans HR2.out
  have B3 : BelP (fun j => j = C ∨ j = g ∨ j = r) w w3 := (BelP.of_below HB2.out).trans (BelP.of_belR hb3 (.inr (.inl rfl)))
  clear kd hb3 E2 HC2 HX2 HR2 HO2 HB2 c1 hs2
  generalize w1.heap.size = F at e3 hw1s ⊢
  have hFC : F ≠ C := by omega
  have hFr : F ≠ r := by omega
  clear hw1s Z1
  have c3 : w3.cell? ⟨C, 1, none⟩ = some (.slice (some ⟨g, 0, none⟩) 1 cap) := (Lib.cell_of_heap C3 1).trans rfl
  have z3 := Lib.frozen_of_heap C3 1
  have C4 : (w3.setCell ⟨C, 1, none⟩ (.slice (some ⟨g, 0, none⟩) 0 cap)).heap[C]? = some (.cells (connR inn (.slice (some ⟨g, 0, none⟩) 0 cap) (.map (some r)) (.pointer none) ticks) 49 (0, 0)) := setCell_at (i := 1) (u := .slice (some ⟨g, 0, none⟩) 0 cap) C3
  have x4 : (w3.setCell ⟨C, 1, none⟩ (.slice (some ⟨g, 0, none⟩) 0 cap)).heap[w.heap.size]? = some (.cells #[.int .i64 0, .int .i64 0, .string ⟨#[]⟩, .int .i64 0, .bool false, .string ⟨#[]⟩, .int .i64 0, .int .i64 0, .int .i64 0, .int .i64 0, .bool false, .slice none 0 0, .slice none 0 0, .slice none 0 0, .slice none 0 0, .string ⟨#[]⟩, .string ⟨#[]⟩, .bool false, .bool false, .string ⟨#[]⟩, .string ⟨#[]⟩, .string ⟨#[]⟩, .bool false, .int .i64 0, .int .i64 0, .string ⟨#[]⟩, .string ⟨#[]⟩, .slice none 0 0] 32 (0, 0)) := (heap_setCell_other w3 ⟨C, 1, none⟩ w.heap.size _ (by show w.heap.size ≠ C; omega)).trans x3
  have e4 : (w3.setCell ⟨C, 1, none⟩ (.slice (some ⟨g, 0, none⟩) 0 cap)).heap[F]? = some (.cells D 32 (0, 0)) := (heap_setCell_other w3 ⟨C, 1, none⟩ F _ hFC).trans e3
  have r4 := (heap_setCell_other w3 ⟨C, 1, none⟩ r (.slice (some ⟨g, 0, none⟩) 0 cap) (by show r ≠ C; omega)).trans r3
  have B4 : BelP (fun j => j = C ∨ j = g ∨ j = r) w (w3.setCell ⟨C, 1, none⟩ (.slice (some ⟨g, 0, none⟩) 0 cap)) := B3.set (p := ⟨C, 1, none⟩) (.inl (.inl rfl)) _
  go_upto_region 3 with fail
  generalize w3.setCell ⟨C, 1, none⟩ (.slice (some ⟨g, 0, none⟩) 0 cap) = w4 at C4 x4 e4 r4 B4 ⊢
  clear c3 z3 C3 x3 e3 r3 B3
  refine wp_region_held (S := fun w' => w'.cell? ⟨C, 2, none⟩ = some (.map (some r)) ∧ w'.cell? ⟨F, 0, none⟩ = some (.int .i64 1)) (by kernel_rfl) ?_
  have T : w4.drew.cell? ⟨C, 2, none⟩ = some (.map (some r)) ∧ w4.drew.cell? ⟨F, 0, none⟩ = some (.int .i64 1) := ⟨(Lib.cell_of_heap C4 2).trans rfl, (Lib.cell_of_heap e4 0).trans HD0.out⟩
  have C5 : w4.drew.heap[C]? = some (.cells (connR inn (.slice (some ⟨g, 0, none⟩) 0 cap) (.map (some r)) (.pointer none) ticks) 49 (0, 0)) := C4
  have x5 : w4.drew.heap[w.heap.size]? = some (.cells #[.int .i64 0, .int .i64 0, .string ⟨#[]⟩, .int .i64 0, .bool false, .string ⟨#[]⟩, .int .i64 0, .int .i64 0, .int .i64 0, .int .i64 0, .bool false, .slice none 0 0, .slice none 0 0, .slice none 0 0, .slice none 0 0, .string ⟨#[]⟩, .string ⟨#[]⟩, .bool false, .bool false, .string ⟨#[]⟩, .string ⟨#[]⟩, .string ⟨#[]⟩, .bool false, .int .i64 0, .int .i64 0, .string ⟨#[]⟩, .string ⟨#[]⟩, .slice none 0 0] 32 (0, 0)) := x4
  have e5 : w4.drew.heap[F]? = some (.cells D 32 (0, 0)) := e4
  have r5 : w4.drew.heap[r]? = _ := r4
  have B5 := B4.trans (BelP.of_below (P := fun j => j = C ∨ j = g ∨ j = r) (Below.refl w4.heap.size w4).drew)
  change wpAnyH _ _ _ _ _ _ _ _ w4.drew
  clear C4 x4 e4 r4 B4
  generalize w4.drew = w5 at T C5 x5 e5 r5 B5 ⊢
  refine anyH_take 0 (.pointer (some ⟨C, 0, none⟩)) rfl (by kernel_rfl) (by kernel_rfl) (by kernel_rfl) (fun _ _ _ h => h) (by rfl) (fun w' hS => by go_simp) T (fun K hK => ?_); go_simp; refine hK _ _ ?_; clear hK K
  refine anyH_take 1 (.pointer (some ⟨C, 0, none⟩)) rfl (by kernel_rfl) (by kernel_rfl) (by kernel_rfl) (fun _ _ _ h => h) (by rfl) (fun w' hS => by go_simp) T (fun K hK => ?_); go_simp; refine hK _ _ ?_; clear hK K
  refine anyH_take 2 (.pointer (some ⟨C, 2, none⟩)) rfl (by kernel_rfl) (by kernel_rfl) (by kernel_rfl) (fun _ _ _ h => h) (by rfl) (fun w' hS => by go_simp) T (fun K hK => ?_); go_simp; refine hK _ _ ?_; clear hK K
  refine anyH_take 3 (.map (some r)) rfl (by kernel_rfl) (by kernel_rfl) (by kernel_rfl) (fun _ _ _ h => h) (by rfl) (fun w' hS => by obtain ⟨q0, q1⟩ := hS; go_simp) T (fun K hK => ?_); go_simp; refine hK _ _ ?_; clear hK K
  refine anyH_take 4 (.pointer (some ⟨F, 0, none⟩)) rfl (by kernel_rfl) (by kernel_rfl) (by kernel_rfl) (fun _ _ _ h => h) (by rfl) (fun w' hS => by go_simp) T (fun K hK => ?_); go_simp; refine hK _ _ ?_; clear hK K
  refine anyH_take 5 (.int .i64 1) rfl (by kernel_rfl) (by kernel_rfl) (by kernel_rfl) (fun _ _ _ h => h) (by rfl) (fun w' hS => by obtain ⟨q0, q1⟩ := hS; go_simp) T (fun K hK => ?_); go_simp; refine hK _ _ ?_; clear hK K
  have hrun := fun ty => run_del1 r 1 (.agg #[]) born cl ty w5 r5
  have hot : ∀ j, j ≠ r → ({ w5 with heap := w5.heap.setIfInBounds r (.map #[] cl) } : World).heap[j]? = w5.heap[j]? := fun j hj => by simp [Ne.symm hj]
  have C6 := (hot C (Ne.symm hrC)).trans C5
  have x6 := (hot w.heap.size (by omega)).trans x5
  have e6 := (hot F hFr).trans e5
  have T6 : ({ w5 with heap := w5.heap.setIfInBounds r (.map #[] cl) } : World).cell? ⟨C, 2, none⟩ = some (.map (some r)) ∧ ({ w5 with heap := w5.heap.setIfInBounds r (.map #[] cl) } : World).cell? ⟨F, 0, none⟩ = some (.int .i64 1) := ⟨(Lib.cell_of_heap C6 2).trans rfl, (Lib.cell_of_heap e6 0).trans HD0.out⟩
  have B6 : BelP (fun j => j = C ∨ j = g ∨ j = r) w { w5 with heap := w5.heap.setIfInBounds r (.map #[] cl) } := ⟨B5.os, B5.tape, B5.output, by simpa using B5.size, fun j hj hn => (hot j (fun h => hn (.inr (.inr h)))).trans (B5.block j hj hn)⟩
  generalize ({ w5 with heap := w5.heap.setIfInBounds r (.map #[] cl) } : World) = w6 at hrun C6 x6 e6 T6 B6
  clear hot
  refine anyH_one 6 (by kernel_rfl) rfl (by rfl) (fun K hK => ?_); go_simp; refine hK _ _ T6 ?_; clear hK K
  clear hrun T C5 x5 e5 r5 B5 T6
  refine wpAnyH_done (by kernel_rfl) ?_ _
  simp only [Exit.then]
  refine ‹∀ (a : Act) (w : World), Code.wp _ _ _ a w → _› _ _ ?_
  have C7 := (setRow_other w6 w.heap.size C D (by omega)).trans C6
  have t7 := setRow_heap w6 w.heap.size _ D _ _ x6
  have B7 := B6.row (Nat.le_refl _) D
  have HC7 := Lib.hid C7
  have HT7 := Lib.hid t7
  have HB7 := Lib.hid B7
  have HX6 := Lib.hid x6
  have HE6 := Lib.hid e6
  clear C7 t7 B7 C6 x6 e6 B6
  go_wp2_with (first
    | (refine wpList_loadRow rfl 32 (.tmp 5) rfl F 32 D (0, 0) (by rfl) HE6.out _ Tryz.underlying32 rfl (by rw [HD2.out]; rfl) ?_)
    | (refine wpList_storeRow rfl 32 (.tmp 4) (.tmp 30) rfl w.heap.size 32 #[.int .i64 0, .int .i64 0, .string ⟨#[]⟩, .int .i64 0, .bool false, .string ⟨#[]⟩, .int .i64 0, .int .i64 0, .int .i64 0, .int .i64 0, .bool false, .slice none 0 0, .slice none 0 0, .slice none 0 0, .slice none 0 0, .string ⟨#[]⟩, .string ⟨#[]⟩, .bool false, .bool false, .string ⟨#[]⟩, .string ⟨#[]⟩, .string ⟨#[]⟩, .bool false, .int .i64 0, .int .i64 0, .string ⟨#[]⟩, .string ⟨#[]⟩, .slice none 0 0] D (by rfl) (by rfl) HX6.out (by rw [HD2.out]; rfl) (by rw [HD2.out]; rfl) HD1.out ?_; generalize (w6.setRow w.heap.size D) = w7 at HC7 HT7 HB7 ⊢))
  have FIN : PR (.returned (.agg D)) w7 := by
    rw [HPR.out]
    exact ⟨by rw [HD.out], HC7.out, HB7.out⟩
  refine bodyPost_ret (v := .agg D) ?_ ?_ FIN
  · have hr := run_loadVar_row (P := Tryz.prog) w7 w.heap.size 32 32 D (0, 0) _ HT7.out (show Tryz.prog.underlying 32 = _ from Tryz.underlying32) (by rfl) (by rw [HD2.out]; rfl)
    simp [results, Act.put, Tryz.f21]
    exact hr
  · rfl
end Go.Proofs.YtaojidcneocelaaGreatDoor
