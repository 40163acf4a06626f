/- chancerylaw18's alive: what it returns. -/
import Derived.Test.YtgdnekhndmijpaaDoorLdifL
import Derived.Test.YtgdnekhndmijpaaDoorMapK
namespace Go.Proofs.YtgdnekhndmijpaaDoor
open Go.RowKit Go.Lib

set_option maxRecDepth 100000 in
set_option maxHeartbeats 2000000 in
theorem right_alive (w : World) (t d : ByteArray) :
    Calls Tryd.prog 25 #[.agg #[.string t, .string ⟨#[]⟩, .string d, .int .i64 1, .slice none 0 0, .slice none 0 0, .string ⟨#[]⟩, .string ⟨#[]⟩, .bool false, .bool false]] w fun e w' => e = .returned (.bool true) ∧ Below w.heap.size w w' := by
  go_enter Tryd.func25, Tryd.ntmps25
  go_wp2
  go_loop [64] (fun i => i = .int .i64 0) (fun _ => 0)
  case atStart => rfl
  case round =>
    subst hrel
    go_wp2
    go_loop [99] (fun i => i = .int .i64 0) (fun _ => 0)
    case atStart => rfl
    case round =>
      subst hrel
      go_wp2
      go_ret
      exact ⟨rfl, (Below.refl _ _).alloc (Nat.le_refl _) _⟩
set_option maxRecDepth 100000 in
theorem kind_alive (w : World) :
    Calls Tryd.prog 27 #[.int .i64 1] w fun e w' => e = .returned (.string ⟨#[100, 101, 108, 101, 116, 101]⟩) ∧ w = w' := by
  have hix : (Instr.index 102 (.agg #[.string ⟨#[97, 100, 100]⟩, .string ⟨#[100, 101, 108, 101, 116, 101]⟩, .string ⟨#[109, 111, 100, 105, 102, 121]⟩, .string ⟨#[109, 111, 100, 114, 100, 110]⟩]) (.int .i64 1)).run Tryd.prog w = .ok (.string ⟨#[100, 101, 108, 101, 116, 101]⟩) w := by kernel_rfl
  go_enter Tryd.func27, Tryd.ntmps27
  go_wp2
  go_ret
  exact ⟨rfl, rfl⟩
set_option maxRecDepth 100000 in
set_option maxHeartbeats 2000000 in
theorem rest_alive (w : World) (b : Nat) (t d : ByteArray) :
    Calls Tryd.prog 28 #[.pointer (some ⟨b, 0, none⟩), .agg #[.string t, .string ⟨#[]⟩, .string d, .int .i64 1, .slice none 0 0, .slice none 0 0, .string ⟨#[]⟩, .string ⟨#[]⟩, .bool false, .bool false]] w fun e w' => e = .returned (.tuple #[]) ∧ Below w.heap.size w w' := by
  have hmm := @run_makeMap Tryd.prog
  obtain ⟨C, hC⟩ : ∃ C, Obj.cells #[.string t, .string ⟨#[]⟩, .string d, .int .i64 1, .slice none 0 0, .slice none 0 0, .string ⟨#[]⟩, .string ⟨#[]⟩, .bool false, .bool false] 25 = C := ⟨_, rfl⟩
  obtain ⟨W1, e1, h1, s1, o1, p1⟩ := run_lay_ex (P := Tryd.prog) (((w.alloc (Obj.cells #[.pointer (some ⟨b, 0, none⟩)] 99)).alloc C).alloc (.map #[] 0)) 103 3 _ (w.heap.size + 1 + 1) 0 #[] 0 (.func (.func 56) #[] #[.pointer (some ⟨w.heap.size + 1, 0, none⟩), .pointer (some ⟨w.heap.size, 0, none⟩)]) Tryd.underlying103 Tryd.underlying3 (alloc_at _ _ _ (by simp)) rfl
  obtain ⟨W2, e2, h2, s2, o2, p2⟩ := run_lay_ex (P := Tryd.prog) W1 103 3 _ (w.heap.size + 1 + 1) _ _ 2 (.func (.func 57) #[] #[.pointer (some ⟨w.heap.size + 1, 0, none⟩), .pointer (some ⟨w.heap.size, 0, none⟩)]) Tryd.underlying103 Tryd.underlying3 h1 rfl
  obtain ⟨W3, e3, h3, s3, o3, p3⟩ := run_lay_ex (P := Tryd.prog) W2 103 3 _ (w.heap.size + 1 + 1) _ _ 3 (.func (.func 59) #[] #[.pointer (some ⟨w.heap.size, 0, none⟩), .pointer (some ⟨w.heap.size + 1, 0, none⟩)]) Tryd.underlying103 Tryd.underlying3 h2 rfl
  obtain ⟨W4, e4, h4, s4, o4, p4⟩ := run_lay_ex (P := Tryd.prog) W3 103 3 _ (w.heap.size + 1 + 1) _ _ 1 (.func (.func 60) #[] #[]) Tryd.underlying103 Tryd.underlying3 h3 rfl
  have e5 := run_find (P := Tryd.prog) W4 103 3 _ (w.heap.size + 1 + 1) _ 3 _ 1 (.func (.func 60) #[] #[]) Tryd.underlying103 Tryd.underlying3 h4 rfl rfl
  have hblk : W4.heap[w.heap.size + 1]? = some C := by
    rw [o4 _ (by omega), o3 _ (by omega), o2 _ (by omega), o1 _ (by omega), Lib.alloc_old _ _ _ (by simp)]
    exact alloc_at _ _ _ (by simp)
  have hcell : W4.cell? ⟨w.heap.size + 1, 3, none⟩ = some (.int .i64 1) := by
    rw [← hC] at hblk
    rw [Lib.cell_of_heap hblk]; rfl
  have hbe : Below w.heap.size w W4 := by
    have b0 := (((Below.refl w.heap.size w).alloc (Nat.le_refl _) (Obj.cells #[.pointer (some ⟨b, 0, none⟩)] 99)).alloc (by simp) C).alloc (by simp; omega) (.map #[] 0)
    have b1 : Below w.heap.size _ W1 := ⟨p1.1, p1.2.1, p1.2.2, Nat.le_of_eq s1.symm, fun k hk => o1 k (by omega)⟩
    have b2 : Below w.heap.size W1 W2 := ⟨p2.1, p2.2.1, p2.2.2, Nat.le_of_eq s2.symm, fun k hk => o2 k (by omega)⟩
    have b3 : Below w.heap.size W2 W3 := ⟨p3.1, p3.2.1, p3.2.2, Nat.le_of_eq s3.symm, fun k hk => o3 k (by omega)⟩
    have b4 : Below w.heap.size W3 W4 := ⟨p4.1, p4.2.1, p4.2.2, Nat.le_of_eq s4.symm, fun k hk => o4 k (by omega)⟩
    exact (((b0.trans b1).trans b2).trans b3).trans b4
  clear h1 h2 h3 h4 hblk o1 o2 o3 o4 s1 s2 s3 s4 p1 p2 p3 p4
  subst hC
  go_enter Tryd.func28, Tryd.ntmps28
  go_wp2
  go_end0
  go_wp2
  go_end0
  exact ⟨rfl, hbe⟩
end Go.Proofs.YtgdnekhndmijpaaDoor
