/- A map with int keys that a function makes: an entry laid, an entry found. -/
import Derived.MapKept
import Derived.WalkKit
namespace Go.Proofs.YtaojidcneocelaaGreatDoor
open Go.RowKit

theorem alloc_at (Y : World) (o : Obj) (n : Nat) (h : n = Y.heap.size) : (Y.alloc o).heap[n]? = some o := by subst h; show (Y.heap.push o)[Y.heap.size]? = some o; simp
/-- An entry is laid under a key that the map has not. -/
theorem run_lay {P : Program} (w : World) (mty kt et : TypeId) (r clock : Nat) (es : Array MapEntry) (k : Int) (val : Value) (hm : P.underlying mty = some (.map kt et)) (hk : P.underlying kt = some (.int .i64)) (hb : w.heap[r]? = some (.map es clock))
    (hf : Instr.findNow (.int .i64) (.int .i64 k) es.toList 0 = some none) :
    (Instr.mapUpdate mty (.map (some r)) (.int .i64 k) val).run P w = .ok () { w with heap := w.heap.setIfInBounds r (.map (es.push { key := .int .i64 k, val := val, born := clock }) (clock + 1)) } := by
  have hc : (Instr.checkKey false 10000 kt (.int .i64 k)).run P w = .ok () w := MapKept.run_checkKey (k := .int .i64 k) hk (by simp [MapKept.IsKey]) false 9999
  simp [Instr.mapUpdate, run_underlying hm, MapKept.run_getObj_map hb, hc, MapKept.run_findKey hk hf, MapKept.run_setObj_map _ hb, Result.andThen]
/-- The same, the new world unsaid but for what is known of it. -/
theorem run_lay_ex {P : Program} (w : World) (mty kt et : TypeId) (r clock : Nat) (es : Array MapEntry) (k : Int) (val : Value) (hm : P.underlying mty = some (.map kt et)) (hk : P.underlying kt = some (.int .i64)) (hb : w.heap[r]? = some (.map es clock))
    (hf : Instr.findNow (.int .i64) (.int .i64 k) es.toList 0 = some none) :
    ∃ w', (Instr.mapUpdate mty (.map (some r)) (.int .i64 k) val).run P w = .ok () w' ∧ w'.heap[r]? = some (.map (es.push { key := .int .i64 k, val := val, born := clock }) (clock + 1)) ∧ w'.heap.size = w.heap.size ∧ (∀ j, j ≠ r → w'.heap[j]? = w.heap[j]?) ∧ w'.os = w.os ∧ w'.tape = w.tape ∧ w'.output = w.output := by
  refine ⟨_, run_lay w mty kt et r clock es k val hm hk hb hf, ?_, ?_, ?_, rfl, rfl, rfl⟩
  · have := (Array.getElem?_eq_some_iff.1 hb).1
    simp [this]
  · simp
  · intro j hj
    simp [Ne.symm hj]
/-- An entry is found. -/
theorem run_find {P : Program} (w : World) (mty kt et : TypeId) (r clock i : Nat) (es : Array MapEntry) (k : Int) (val : Value) (hm : P.underlying mty = some (.map kt et)) (hk : P.underlying kt = some (.int .i64)) (hb : w.heap[r]? = some (.map es clock)) (he : es.isEmpty = false)
    (hf : Instr.findNow (.int .i64) (.int .i64 k) es.toList 0 = some (some (i, val))) :
    (Instr.lookup mty (.map (some r)) (.int .i64 k) false).run P w = .ok val w := by
  have hc : (Instr.checkKey false 10000 kt (.int .i64 k)).run P w = .ok () w := MapKept.run_checkKey (k := .int .i64 k) hk (by simp [MapKept.IsKey]) false 9999
  simp [Instr.lookup, run_underlying hm, MapKept.run_getObj_map hb, he, hc, MapKept.run_findKey hk hf, Result.andThen]
end Go.Proofs.YtaojidcneocelaaGreatDoor
