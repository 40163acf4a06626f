/- ldif: what a record's kind has it write. -/
import Derived.Test.YtehpdodjncabkaaDoorLdD
namespace Go.Proofs.YtehpdodjncabkaaDoor
open Go.RowKit Go.Lib

set_option maxRecDepth 100000 in
set_option maxHeartbeats 2000000 in
theorem rest_kind0 (B b : Nat) (l : List UInt8) (w0 w : World) (T Wh D vM f6 f7 f8 f9 : Value) (hW : IsW B b l w) (h0 : Below w0.heap.size w0 w) (hB0 : w0.heap.size ≤ B) (hBw : B ≤ w.heap.size) (vA : Value) (al : List At) (hA : AttrsAt w0 vA al) (hal : al.length ≤ 1099511627776) (hlen : l.length + (attrB al).length ≤ 1099511627776) (hty : ∀ x ∈ al, x.1.length ≤ 1099511627776 ∧ x.2.length ≤ 1099511627776 ∧ ∀ v ∈ x.2, v.length ≤ 1099511627776) :
    Calls Tryd.prog 23 #[.pointer (some ⟨b, 0, none⟩), .agg #[T, Wh, D, .int .i64 0, vA, vM, f6, f7, f8, f9]] w fun e w' => e = .returned (.tuple #[]) ∧ (IsW B b (l ++ attrB al) w' ∧ Below B w w') := by
  have hmm := @run_makeMap Tryd.prog
  have hlb : b < w.heap.size := IsW.lt hW
  obtain ⟨C, hC⟩ : ∃ C, Obj.cells #[T, Wh, D, .int .i64 0, vA, vM, f6, f7, f8, f9] 25 = C := ⟨_, rfl⟩
  obtain ⟨W1, e1, h1, s1, o1, p1⟩ := run_lay_ex (P := Tryd.prog) (((w.alloc (Obj.cells #[.pointer (some ⟨b, 0, none⟩)] 95)).alloc C).alloc (.map #[] 0)) 99 3 _ (w.heap.size + 1 + 1) 0 #[] 0 (.func (.func 48) #[] #[.pointer (some ⟨w.heap.size + 1, 0, none⟩), .pointer (some ⟨w.heap.size, 0, none⟩)]) Tryd.underlying99 Tryd.underlying3 (alloc_at _ _ _ (by simp)) rfl
  obtain ⟨W2, e2, h2, s2, o2, p2⟩ := run_lay_ex (P := Tryd.prog) W1 99 3 _ (w.heap.size + 1 + 1) _ _ 2 (.func (.func 49) #[] #[.pointer (some ⟨w.heap.size + 1, 0, none⟩), .pointer (some ⟨w.heap.size, 0, none⟩)]) Tryd.underlying99 Tryd.underlying3 h1 rfl
  obtain ⟨W3, e3, h3, s3, o3, p3⟩ := run_lay_ex (P := Tryd.prog) W2 99 3 _ (w.heap.size + 1 + 1) _ _ 3 (.func (.func 51) #[] #[.pointer (some ⟨w.heap.size, 0, none⟩), .pointer (some ⟨w.heap.size + 1, 0, none⟩)]) Tryd.underlying99 Tryd.underlying3 h2 rfl
  obtain ⟨W4, e4, h4, s4, o4, p4⟩ := run_lay_ex (P := Tryd.prog) W3 99 3 _ (w.heap.size + 1 + 1) _ _ 1 (.func (.func 52) #[] #[]) Tryd.underlying99 Tryd.underlying3 h3 rfl
  have e5 := run_find (P := Tryd.prog) W4 99 3 _ (w.heap.size + 1 + 1) _ 0 _ 0 (.func (.func 48) #[] #[.pointer (some ⟨w.heap.size + 1, 0, none⟩), .pointer (some ⟨w.heap.size, 0, none⟩)]) Tryd.underlying99 Tryd.underlying3 h4 rfl rfl
  have hblk : W4.heap[w.heap.size + 1]? = some C := by
    rw [o4 _ (by omega), o3 _ (by omega), o2 _ (by omega), o1 _ (by omega), Lib.alloc_old _ _ _ (by simp)]
    exact alloc_at _ _ _ (by simp)
  have hpb : W4.heap[w.heap.size]? = some (.cells #[.pointer (some ⟨b, 0, none⟩)] 95 (0, 0)) := by
    rw [o4 _ (by omega), o3 _ (by omega), o2 _ (by omega), o1 _ (by omega), Lib.alloc_old _ _ _ (by simp; omega), Lib.alloc_old _ _ _ (by simp)]
    exact alloc_at _ _ _ rfl
  have hbe : Below w.heap.size w W4 := by
    have b0 := (((Below.refl w.heap.size w).alloc (Nat.le_refl _) (Obj.cells #[.pointer (some ⟨b, 0, none⟩)] 95)).alloc (by simp) C).alloc (by simp; omega) (.map #[] 0)
    have b1 : Below w.heap.size _ W1 := ⟨p1.1, p1.2.1, p1.2.2, Nat.le_of_eq s1.symm, fun k hk => o1 k (by omega)⟩
    have b2 : Below w.heap.size W1 W2 := ⟨p2.1, p2.2.1, p2.2.2, Nat.le_of_eq s2.symm, fun k hk => o2 k (by omega)⟩
    have b3 : Below w.heap.size W2 W3 := ⟨p3.1, p3.2.1, p3.2.2, Nat.le_of_eq s3.symm, fun k hk => o3 k (by omega)⟩
    have b4 : Below w.heap.size W3 W4 := ⟨p4.1, p4.2.1, p4.2.2, Nat.le_of_eq s4.symm, fun k hk => o4 k (by omega)⟩
    exact (((b0.trans b1).trans b2).trans b3).trans b4
  subst hC
  have hcell : W4.cell? ⟨w.heap.size + 1, 3, none⟩ = some (.int .i64 0) := by rw [Lib.cell_of_heap hblk]; rfl
  have hW4 : IsW B b l W4 := IsW.below hW hbe
  have h04 : Below w0.heap.size w0 W4 := h0.trans (hbe.mono h0.size)
  have hB4 : B ≤ W4.heap.size := Nat.le_trans hBw hbe.size
  clear h1 h2 h3 h4 o1 o2 o3 o4 s1 s2 s3 s4 p1 p2 p3 p4
  have kr := rest1_any B b (w.heap.size + 1) w.heap.size l vA al #[T, Wh, D, .int .i64 0, vA, vM, f6, f7, f8, f9] w0 W4 hW4 hA h04 hB0 hB4 hblk rfl hpb (by omega) (by omega) hal hlen hty
  clear hblk hpb
  go_enter Tryd.func23, Tryd.ntmps23
  go_wp2_with (go_at_call 48; refine Calls.mono (show Calls _ _ _ _ _ from kr) ?_; rintro e w5 ⟨rfl, hW5, hb5, hk5⟩)
  go_end0
  exact ⟨rfl, hW5, (hbe.mono hBw).trans hb5⟩
set_option maxRecDepth 100000 in
set_option maxHeartbeats 2000000 in
theorem rest_kind1 (B b : Nat) (l : List UInt8) (w0 w : World) (T Wh D vA vM f6 f7 f8 f9 : Value) (hW : IsW B b l w) (h0 : Below w0.heap.size w0 w) (_hB0 : w0.heap.size ≤ B) (hBw : B ≤ w.heap.size)  :
    Calls Tryd.prog 23 #[.pointer (some ⟨b, 0, none⟩), .agg #[T, Wh, D, .int .i64 1, vA, vM, f6, f7, f8, f9]] w fun e w' => e = .returned (.tuple #[]) ∧ (IsW B b (l ++ []) w' ∧ Below B w w') := by
  have hmm := @run_makeMap Tryd.prog
  have hlb : b < w.heap.size := IsW.lt hW
  obtain ⟨C, hC⟩ : ∃ C, Obj.cells #[T, Wh, D, .int .i64 1, vA, vM, f6, f7, f8, f9] 25 = C := ⟨_, rfl⟩
  obtain ⟨W1, e1, h1, s1, o1, p1⟩ := run_lay_ex (P := Tryd.prog) (((w.alloc (Obj.cells #[.pointer (some ⟨b, 0, none⟩)] 95)).alloc C).alloc (.map #[] 0)) 99 3 _ (w.heap.size + 1 + 1) 0 #[] 0 (.func (.func 48) #[] #[.pointer (some ⟨w.heap.size + 1, 0, none⟩), .pointer (some ⟨w.heap.size, 0, none⟩)]) Tryd.underlying99 Tryd.underlying3 (alloc_at _ _ _ (by simp)) rfl
  obtain ⟨W2, e2, h2, s2, o2, p2⟩ := run_lay_ex (P := Tryd.prog) W1 99 3 _ (w.heap.size + 1 + 1) _ _ 2 (.func (.func 49) #[] #[.pointer (some ⟨w.heap.size + 1, 0, none⟩), .pointer (some ⟨w.heap.size, 0, none⟩)]) Tryd.underlying99 Tryd.underlying3 h1 rfl
  obtain ⟨W3, e3, h3, s3, o3, p3⟩ := run_lay_ex (P := Tryd.prog) W2 99 3 _ (w.heap.size + 1 + 1) _ _ 3 (.func (.func 51) #[] #[.pointer (some ⟨w.heap.size, 0, none⟩), .pointer (some ⟨w.heap.size + 1, 0, none⟩)]) Tryd.underlying99 Tryd.underlying3 h2 rfl
  obtain ⟨W4, e4, h4, s4, o4, p4⟩ := run_lay_ex (P := Tryd.prog) W3 99 3 _ (w.heap.size + 1 + 1) _ _ 1 (.func (.func 52) #[] #[]) Tryd.underlying99 Tryd.underlying3 h3 rfl
  have e5 := run_find (P := Tryd.prog) W4 99 3 _ (w.heap.size + 1 + 1) _ 3 _ 1 (.func (.func 52) #[] #[]) Tryd.underlying99 Tryd.underlying3 h4 rfl rfl
  have hblk : W4.heap[w.heap.size + 1]? = some C := by
    rw [o4 _ (by omega), o3 _ (by omega), o2 _ (by omega), o1 _ (by omega), Lib.alloc_old _ _ _ (by simp)]
    exact alloc_at _ _ _ (by simp)
  have hpb : W4.heap[w.heap.size]? = some (.cells #[.pointer (some ⟨b, 0, none⟩)] 95 (0, 0)) := by
    rw [o4 _ (by omega), o3 _ (by omega), o2 _ (by omega), o1 _ (by omega), Lib.alloc_old _ _ _ (by simp; omega), Lib.alloc_old _ _ _ (by simp)]
    exact alloc_at _ _ _ rfl
  have hbe : Below w.heap.size w W4 := by
    have b0 := (((Below.refl w.heap.size w).alloc (Nat.le_refl _) (Obj.cells #[.pointer (some ⟨b, 0, none⟩)] 95)).alloc (by simp) C).alloc (by simp; omega) (.map #[] 0)
    have b1 : Below w.heap.size _ W1 := ⟨p1.1, p1.2.1, p1.2.2, Nat.le_of_eq s1.symm, fun k hk => o1 k (by omega)⟩
    have b2 : Below w.heap.size W1 W2 := ⟨p2.1, p2.2.1, p2.2.2, Nat.le_of_eq s2.symm, fun k hk => o2 k (by omega)⟩
    have b3 : Below w.heap.size W2 W3 := ⟨p3.1, p3.2.1, p3.2.2, Nat.le_of_eq s3.symm, fun k hk => o3 k (by omega)⟩
    have b4 : Below w.heap.size W3 W4 := ⟨p4.1, p4.2.1, p4.2.2, Nat.le_of_eq s4.symm, fun k hk => o4 k (by omega)⟩
    exact (((b0.trans b1).trans b2).trans b3).trans b4
  subst hC
  have hcell : W4.cell? ⟨w.heap.size + 1, 3, none⟩ = some (.int .i64 1) := by rw [Lib.cell_of_heap hblk]; rfl
  have hW4 : IsW B b l W4 := IsW.below hW hbe
  have h04 : Below w0.heap.size w0 W4 := h0.trans (hbe.mono h0.size)
  have hB4 : B ≤ W4.heap.size := Nat.le_trans hBw hbe.size
  clear h1 h2 h3 h4 o1 o2 o3 o4 s1 s2 s3 s4 p1 p2 p3 p4
  clear hblk hpb
  go_enter Tryd.func23, Tryd.ntmps23
  go_wp2
  go_end0
  go_wp2
  go_end0
  exact ⟨rfl, by simpa using hW4, hbe.mono hBw⟩
set_option maxRecDepth 100000 in
set_option maxHeartbeats 2000000 in
theorem rest_kind2 (B b : Nat) (l : List UInt8) (w0 w : World) (T Wh D vA f6 f7 f8 f9 : Value) (hW : IsW B b l w) (h0 : Below w0.heap.size w0 w) (hB0 : w0.heap.size ≤ B) (hBw : B ≤ w.heap.size) (vM : Value) (ml : List Md) (hA : ModsAt w0 vM ml) (hal : ml.length ≤ 1099511627776) (hlen : l.length + (modB ml).length ≤ 1099511627776) (hty : ∀ x ∈ ml, (0 ≤ x.1 ∧ x.1 ≤ 2) ∧ x.2.1.length ≤ 1099511627776 ∧ x.2.2.length ≤ 1099511627776 ∧ ∀ v ∈ x.2.2, v.length ≤ 1099511627776) :
    Calls Tryd.prog 23 #[.pointer (some ⟨b, 0, none⟩), .agg #[T, Wh, D, .int .i64 2, vA, vM, f6, f7, f8, f9]] w fun e w' => e = .returned (.tuple #[]) ∧ (IsW B b (l ++ modB ml) w' ∧ Below B w w') := by
  have hmm := @run_makeMap Tryd.prog
  have hlb : b < w.heap.size := IsW.lt hW
  obtain ⟨C, hC⟩ : ∃ C, Obj.cells #[T, Wh, D, .int .i64 2, vA, vM, f6, f7, f8, f9] 25 = C := ⟨_, rfl⟩
  obtain ⟨W1, e1, h1, s1, o1, p1⟩ := run_lay_ex (P := Tryd.prog) (((w.alloc (Obj.cells #[.pointer (some ⟨b, 0, none⟩)] 95)).alloc C).alloc (.map #[] 0)) 99 3 _ (w.heap.size + 1 + 1) 0 #[] 0 (.func (.func 48) #[] #[.pointer (some ⟨w.heap.size + 1, 0, none⟩), .pointer (some ⟨w.heap.size, 0, none⟩)]) Tryd.underlying99 Tryd.underlying3 (alloc_at _ _ _ (by simp)) rfl
  obtain ⟨W2, e2, h2, s2, o2, p2⟩ := run_lay_ex (P := Tryd.prog) W1 99 3 _ (w.heap.size + 1 + 1) _ _ 2 (.func (.func 49) #[] #[.pointer (some ⟨w.heap.size + 1, 0, none⟩), .pointer (some ⟨w.heap.size, 0, none⟩)]) Tryd.underlying99 Tryd.underlying3 h1 rfl
  obtain ⟨W3, e3, h3, s3, o3, p3⟩ := run_lay_ex (P := Tryd.prog) W2 99 3 _ (w.heap.size + 1 + 1) _ _ 3 (.func (.func 51) #[] #[.pointer (some ⟨w.heap.size, 0, none⟩), .pointer (some ⟨w.heap.size + 1, 0, none⟩)]) Tryd.underlying99 Tryd.underlying3 h2 rfl
  obtain ⟨W4, e4, h4, s4, o4, p4⟩ := run_lay_ex (P := Tryd.prog) W3 99 3 _ (w.heap.size + 1 + 1) _ _ 1 (.func (.func 52) #[] #[]) Tryd.underlying99 Tryd.underlying3 h3 rfl
  have e5 := run_find (P := Tryd.prog) W4 99 3 _ (w.heap.size + 1 + 1) _ 1 _ 2 (.func (.func 49) #[] #[.pointer (some ⟨w.heap.size + 1, 0, none⟩), .pointer (some ⟨w.heap.size, 0, none⟩)]) Tryd.underlying99 Tryd.underlying3 h4 rfl rfl
  have hblk : W4.heap[w.heap.size + 1]? = some C := by
    rw [o4 _ (by omega), o3 _ (by omega), o2 _ (by omega), o1 _ (by omega), Lib.alloc_old _ _ _ (by simp)]
    exact alloc_at _ _ _ (by simp)
  have hpb : W4.heap[w.heap.size]? = some (.cells #[.pointer (some ⟨b, 0, none⟩)] 95 (0, 0)) := by
    rw [o4 _ (by omega), o3 _ (by omega), o2 _ (by omega), o1 _ (by omega), Lib.alloc_old _ _ _ (by simp; omega), Lib.alloc_old _ _ _ (by simp)]
    exact alloc_at _ _ _ rfl
  have hbe : Below w.heap.size w W4 := by
    have b0 := (((Below.refl w.heap.size w).alloc (Nat.le_refl _) (Obj.cells #[.pointer (some ⟨b, 0, none⟩)] 95)).alloc (by simp) C).alloc (by simp; omega) (.map #[] 0)
    have b1 : Below w.heap.size _ W1 := ⟨p1.1, p1.2.1, p1.2.2, Nat.le_of_eq s1.symm, fun k hk => o1 k (by omega)⟩
    have b2 : Below w.heap.size W1 W2 := ⟨p2.1, p2.2.1, p2.2.2, Nat.le_of_eq s2.symm, fun k hk => o2 k (by omega)⟩
    have b3 : Below w.heap.size W2 W3 := ⟨p3.1, p3.2.1, p3.2.2, Nat.le_of_eq s3.symm, fun k hk => o3 k (by omega)⟩
    have b4 : Below w.heap.size W3 W4 := ⟨p4.1, p4.2.1, p4.2.2, Nat.le_of_eq s4.symm, fun k hk => o4 k (by omega)⟩
    exact (((b0.trans b1).trans b2).trans b3).trans b4
  subst hC
  have hcell : W4.cell? ⟨w.heap.size + 1, 3, none⟩ = some (.int .i64 2) := by rw [Lib.cell_of_heap hblk]; rfl
  have hW4 : IsW B b l W4 := IsW.below hW hbe
  have h04 : Below w0.heap.size w0 W4 := h0.trans (hbe.mono h0.size)
  have hB4 : B ≤ W4.heap.size := Nat.le_trans hBw hbe.size
  clear h1 h2 h3 h4 o1 o2 o3 o4 s1 s2 s3 s4 p1 p2 p3 p4
  have kr := rest2_any B b (w.heap.size + 1) w.heap.size l vM ml #[T, Wh, D, .int .i64 2, vA, vM, f6, f7, f8, f9] w0 W4 hW4 hA h04 hB0 hB4 hblk rfl hpb (by omega) (by omega) hal hlen hty
  clear hblk hpb
  go_enter Tryd.func23, Tryd.ntmps23
  go_wp2_with (go_at_call 49; refine Calls.mono (show Calls _ _ _ _ _ from kr) ?_; rintro e w5 ⟨rfl, hW5, hb5, hk5⟩)
  go_end0
  exact ⟨rfl, hW5, (hbe.mono hBw).trans hb5⟩
set_option maxRecDepth 100000 in
set_option maxHeartbeats 2000000 in
theorem rest_kind3 (B b : Nat) (l : List UInt8) (w0 w : World) (T Wh D vA vM : Value) (hW : IsW B b l w) (h0 : Below w0.heap.size w0 w) (_hB0 : w0.heap.size ≤ B) (hBw : B ≤ w.heap.size) (c : Chg) (hl : l.length ≤ 1000000000) (hn6 : c.newRdn.length ≤ 1000000000) (hn7 : c.newSup.length ≤ 1000000000) :
    Calls Tryd.prog 23 #[.pointer (some ⟨b, 0, none⟩), .agg #[T, Wh, D, .int .i64 3, vA, vM, (.string ⟨c.newRdn.toArray⟩), (.string ⟨c.newSup.toArray⟩), (.bool c.delOld), (.bool c.hasSup)]] w fun e w' => e = .returned (.tuple #[]) ∧ (IsW B b (l ++ moveB c) w' ∧ Below B w w') := by
  have hmm := @run_makeMap Tryd.prog
  have hlb : b < w.heap.size := IsW.lt hW
  obtain ⟨C, hC⟩ : ∃ C, Obj.cells #[T, Wh, D, .int .i64 3, vA, vM, (.string ⟨c.newRdn.toArray⟩), (.string ⟨c.newSup.toArray⟩), (.bool c.delOld), (.bool c.hasSup)] 25 = C := ⟨_, rfl⟩
  obtain ⟨W1, e1, h1, s1, o1, p1⟩ := run_lay_ex (P := Tryd.prog) (((w.alloc (Obj.cells #[.pointer (some ⟨b, 0, none⟩)] 95)).alloc C).alloc (.map #[] 0)) 99 3 _ (w.heap.size + 1 + 1) 0 #[] 0 (.func (.func 48) #[] #[.pointer (some ⟨w.heap.size + 1, 0, none⟩), .pointer (some ⟨w.heap.size, 0, none⟩)]) Tryd.underlying99 Tryd.underlying3 (alloc_at _ _ _ (by simp)) rfl
  obtain ⟨W2, e2, h2, s2, o2, p2⟩ := run_lay_ex (P := Tryd.prog) W1 99 3 _ (w.heap.size + 1 + 1) _ _ 2 (.func (.func 49) #[] #[.pointer (some ⟨w.heap.size + 1, 0, none⟩), .pointer (some ⟨w.heap.size, 0, none⟩)]) Tryd.underlying99 Tryd.underlying3 h1 rfl
  obtain ⟨W3, e3, h3, s3, o3, p3⟩ := run_lay_ex (P := Tryd.prog) W2 99 3 _ (w.heap.size + 1 + 1) _ _ 3 (.func (.func 51) #[] #[.pointer (some ⟨w.heap.size, 0, none⟩), .pointer (some ⟨w.heap.size + 1, 0, none⟩)]) Tryd.underlying99 Tryd.underlying3 h2 rfl
  obtain ⟨W4, e4, h4, s4, o4, p4⟩ := run_lay_ex (P := Tryd.prog) W3 99 3 _ (w.heap.size + 1 + 1) _ _ 1 (.func (.func 52) #[] #[]) Tryd.underlying99 Tryd.underlying3 h3 rfl
  have e5 := run_find (P := Tryd.prog) W4 99 3 _ (w.heap.size + 1 + 1) _ 2 _ 3 (.func (.func 51) #[] #[.pointer (some ⟨w.heap.size, 0, none⟩), .pointer (some ⟨w.heap.size + 1, 0, none⟩)]) Tryd.underlying99 Tryd.underlying3 h4 rfl rfl
  have hblk : W4.heap[w.heap.size + 1]? = some C := by
    rw [o4 _ (by omega), o3 _ (by omega), o2 _ (by omega), o1 _ (by omega), Lib.alloc_old _ _ _ (by simp)]
    exact alloc_at _ _ _ (by simp)
  have hpb : W4.heap[w.heap.size]? = some (.cells #[.pointer (some ⟨b, 0, none⟩)] 95 (0, 0)) := by
    rw [o4 _ (by omega), o3 _ (by omega), o2 _ (by omega), o1 _ (by omega), Lib.alloc_old _ _ _ (by simp; omega), Lib.alloc_old _ _ _ (by simp)]
    exact alloc_at _ _ _ rfl
  have hbe : Below w.heap.size w W4 := by
    have b0 := (((Below.refl w.heap.size w).alloc (Nat.le_refl _) (Obj.cells #[.pointer (some ⟨b, 0, none⟩)] 95)).alloc (by simp) C).alloc (by simp; omega) (.map #[] 0)
    have b1 : Below w.heap.size _ W1 := ⟨p1.1, p1.2.1, p1.2.2, Nat.le_of_eq s1.symm, fun k hk => o1 k (by omega)⟩
    have b2 : Below w.heap.size W1 W2 := ⟨p2.1, p2.2.1, p2.2.2, Nat.le_of_eq s2.symm, fun k hk => o2 k (by omega)⟩
    have b3 : Below w.heap.size W2 W3 := ⟨p3.1, p3.2.1, p3.2.2, Nat.le_of_eq s3.symm, fun k hk => o3 k (by omega)⟩
    have b4 : Below w.heap.size W3 W4 := ⟨p4.1, p4.2.1, p4.2.2, Nat.le_of_eq s4.symm, fun k hk => o4 k (by omega)⟩
    exact (((b0.trans b1).trans b2).trans b3).trans b4
  subst hC
  have hcell : W4.cell? ⟨w.heap.size + 1, 3, none⟩ = some (.int .i64 3) := by rw [Lib.cell_of_heap hblk]; rfl
  have hW4 : IsW B b l W4 := IsW.below hW hbe
  have h04 : Below w0.heap.size w0 W4 := h0.trans (hbe.mono h0.size)
  have hB4 : B ≤ W4.heap.size := Nat.le_trans hBw hbe.size
  clear h1 h2 h3 h4 o1 o2 o3 o4 s1 s2 s3 s4 p1 p2 p3 p4
  have kr := rest3_any B b (w.heap.size + 1) w.heap.size l c #[T, Wh, D, .int .i64 3, vA, vM, (.string ⟨c.newRdn.toArray⟩), (.string ⟨c.newSup.toArray⟩), (.bool c.delOld), (.bool c.hasSup)] W4 hW4 hB4 hblk rfl rfl rfl rfl hpb (by omega) (by omega) hl hn6 hn7
  clear hblk hpb
  go_enter Tryd.func23, Tryd.ntmps23
  go_wp2_with (go_at_call 51; refine Calls.mono (show Calls _ _ _ _ _ from kr) ?_; rintro e w5 ⟨rfl, hW5, hb5, hk5⟩)
  go_end0
  exact ⟨rfl, hW5, (hbe.mono hBw).trans hb5⟩
end Go.Proofs.YtehpdodjncabkaaDoor
