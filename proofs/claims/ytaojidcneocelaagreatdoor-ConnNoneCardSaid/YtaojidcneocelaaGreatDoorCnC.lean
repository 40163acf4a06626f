/- conn: taken of a connection that has nothing; comes of a delete. (Written by gencnc.py.) -/
import Derived.Test.YtaojidcneocelaaGreatDoorCnB
import Derived.Laws.CopyRow
namespace Go.Proofs.YtaojidcneocelaaGreatDoor
open Go.RowKit Go.Lib

theorem Tryz.infoMessage : (Tryz.prog.info? 32).map (fun i => (i.zero, i.size, i.bytes)) = some (some (.agg #[.int .i64 0, .int .i64 0, .string ⟨#[]⟩, .int .i64 0, .bool false, .string ⟨#[]⟩, .int .i64 0, .int .i64 0, .int .i64 0, .int .i64 0, .bool false, .slice none 0 0, .slice none 0 0, .slice none 0 0, .slice none 0 0, .string ⟨#[]⟩, .string ⟨#[]⟩, .bool false, .bool false, .string ⟨#[]⟩, .string ⟨#[]⟩, .string ⟨#[]⟩, .bool false, .int .i64 0, .int .i64 0, .string ⟨#[]⟩, .string ⟨#[]⟩, .slice none 0 0]), 28, 368) := by kernel_rfl
/-- The message that the first call sends. -/
theorem del_row : msgD 1 10 [100, 99, 61, 122] = #[.int .i64 1, .int .i64 10, .string ⟨#[100, 99, 61, 122]⟩, .int .i64 0, .bool false, .string ⟨#[]⟩, .int .i64 0, .int .i64 0, .int .i64 0, .int .i64 0, .bool false, .slice none 0 0, .slice none 0 0, .slice none 0 0, .slice none 0 0, .string ⟨#[]⟩, .string ⟨#[]⟩, .bool false, .bool false, .string ⟨#[]⟩, .string ⟨#[]⟩, .string ⟨#[]⟩, .bool false, .int .i64 0, .int .i64 0, .string ⟨#[]⟩, .string ⟨#[]⟩, .slice none 0 0] := rfl
theorem taken_none (C : Nat) (inn : List UInt8) (ticks k : Int) (w : World) (hC : w.heap[C]? = some (.cells (connR inn (.slice none 0 0) (.map none) (.pointer none) ticks) 49 (0, 0))) :
    Calls Tryz.prog 32 #[.pointer (some ⟨C, 0, none⟩), .int .i64 k] w fun e w' => e = .returned (.bool false) ∧ Below w.heap.size w w' := by
  obtain ⟨c0, c1, c2, c3, c7, c8⟩ := conn_cells hC
  have hc : ∀ w : World, (Instr.checkKey true 10000 3 (.int .i64 k)).run Tryz.prog w = .ok () w := fun w => MapKept.run_checkKey (k := .int .i64 k) (d := .int .i64) (by kernel_rfl) (by simp [MapKept.IsKey]) true 9999
  have hz : ∀ w : World, (zeroValue 86).run Tryz.prog w = .ok (.agg #[]) w := fun w => by go_simp
  have hl : ∀ w : World, (Instr.lookup 42 (.map none) (.int .i64 k) true).run Tryz.prog w = .ok (.tuple #[.agg #[], .bool false]) w := by
    intro w
    simp [Instr.lookup, run_underlying (show Tryz.prog.underlying 42 = some (.map 3 86) by kernel_rfl), hc, MapKept.run_findKey (d := .int .i64) (show Tryz.prog.underlying 3 = some (.int .i64) by kernel_rfl) (show Instr.findNow (.int .i64) (.int .i64 k) [] 0 = some none from rfl), hz, Result.andThen]
  clear hc hz hC
  go_enter Tryz.func32, Tryz.ntmps32
  go_upto_region 2 with fail
  have d3 := (((Below.refl w.heap.size w).alloc (Nat.le_refl _) (.cells #[] 86)).cell (lt_of_cell c3)).trans c3
  have b2 := (Below.refl w.heap.size w).alloc (Nat.le_refl _) (.cells #[] 86)
  generalize w.alloc (.cells #[] 86) = w2 at d3 b2 ⊢
  go_wp2_with fail
  go_ret
  exact ⟨rfl, b2⟩
end Go.Proofs.YtaojidcneocelaaGreatDoor
