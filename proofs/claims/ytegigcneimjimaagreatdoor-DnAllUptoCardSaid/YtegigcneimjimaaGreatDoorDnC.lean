/- dn.Parse: what it returns. -/
import Derived.Test.YtegigcneimjimaaGreatDoorDnM
import Derived.Defers
import Derived.Recover
import Derived.Laws.Pointers
namespace Go.Proofs.YtegigcneimjimaaGreatDoor
open Go.RowKit Go.Lib

set_option maxRecDepth 100000 in
set_option maxHeartbeats 2000000 in
theorem catch_panicking (po pe : Nat) (x y : Value) (w : World) (hne : po ≠ pe) (h1 : w.cell? ⟨po, 0, none⟩ = some x) (h2 : w.frozen? ⟨po, 0, none⟩ = false) (h3 : w.cell? ⟨pe, 0, none⟩ = some y) (h4 : w.frozen? ⟨pe, 0, none⟩ = false) :
    CallsD Tryz.prog 115 #[.pointer (some ⟨po, 0, none⟩), .pointer (some ⟨pe, 0, none⟩)] (.panicking ({ v := perr, recovered := false } :: [])) w fun e u' w' =>
      e = .returned (.tuple #[]) ∧ u' = .panicking ({ v := perr, recovered := true } :: []) ∧ w' = (w.setCell ⟨po, 0, none⟩ (.slice none 0 0)).setCell ⟨pe, 0, none⟩ (.int .i64 30) := by
  have hta : ∀ w, (Instr.typeAssert (.iface 48 (.int .i64 30)) 20 48 true).run Tryz.prog w = .ok (.tuple #[.int .i64 30, .bool true]) w := fun w => by kernel_rfl
  have h5 : (w.setCell ⟨po, 0, none⟩ (.slice none 0 0)).cell? ⟨pe, 0, none⟩ = some y := (World.cell?_of_block (w := w) (heap_setCell_other w ⟨po, 0, none⟩ pe _ (Ne.symm hne))).trans h3
  refine callsD_of_wpS Tryz.func115 rfl fun c₀ cs hu => ?_
  apply wpS_seq
  apply wpS_region
  simp [wpOpsS, go_sem, recoverD, hu, Tryz.ntmps115, Exit.thenS]
  unfold perr
  refine wpS_of_wp ?_
  simp only [Array.replicate, List.replicate, List.setIfInBounds_toArray, List.set]
  go_wp2
  refine ⟨rfl, _, rfl, _, results_none rfl _ _ _, rfl, rfl, rfl⟩
set_option maxRecDepth 100000 in
set_option maxHeartbeats 2000000 in
theorem catch_idle (po pe : Nat) (w : World) :
    CallsD Tryz.prog 115 #[.pointer (some ⟨po, 0, none⟩), .pointer (some ⟨pe, 0, none⟩)] .returning w fun e u' w' => e = .returned (.tuple #[]) ∧ u' = .returning ∧ w' = w := by
  refine callsD_of_wpS Tryz.func115 rfl fun c₀ cs hu => ?_
  apply wpS_seq
  apply wpS_region
  simp [wpOpsS, go_sem, recoverD, hu, Tryz.ntmps115, Exit.thenS]
  refine wpS_of_wp ?_
  simp only [Array.replicate, List.replicate, List.setIfInBounds_toArray, List.set]
  go_wp2
  cases c₀
  simp_all [bodyPostS, results, Tryz.results115]
/-- Two variables of one cell each, both stored to. -/
theorem both_set (w : World) (a b : Nat) (ta tb : TypeId) (x y x' y' : Value) (hne : a ≠ b) (ha : w.heap[a]? = some (.cells #[x] ta (0, 0))) (hb : w.heap[b]? = some (.cells #[y] tb (0, 0))) :
    ((w.setCell ⟨a, 0, none⟩ x').setCell ⟨b, 0, none⟩ y').cell? ⟨a, 0, none⟩ = some x' ∧ ((w.setCell ⟨a, 0, none⟩ x').setCell ⟨b, 0, none⟩ y').cell? ⟨b, 0, none⟩ = some y' := by
  have h1 : (w.setCell ⟨a, 0, none⟩ x').heap[a]? = some (.cells #[x'] ta (0, 0)) := by rw [heap_setCell_same w a 0 _ _ _ ha]; rfl
  have h2 : (w.setCell ⟨a, 0, none⟩ x').heap[b]? = some (.cells #[y] tb (0, 0)) := by rw [heap_setCell_other w ⟨a, 0, none⟩ b _ (Ne.symm hne)]; exact hb
  have h3 : ((w.setCell ⟨a, 0, none⟩ x').setCell ⟨b, 0, none⟩ y').heap[b]? = some (.cells #[y'] tb (0, 0)) := by rw [heap_setCell_same _ b 0 _ _ _ h2]; rfl
  have h4 : ((w.setCell ⟨a, 0, none⟩ x').setCell ⟨b, 0, none⟩ y').heap[a]? = some (.cells #[x'] ta (0, 0)) := by rw [heap_setCell_other _ ⟨b, 0, none⟩ a _ hne]; exact h1
  exact ⟨by rw [Lib.cell_of_heap h4]; rfl, by rw [Lib.cell_of_heap h3]; rfl⟩
set_option maxRecDepth 100000 in
set_option maxHeartbeats 4000000 in
theorem Parse_own (s : List UInt8) (w : World) (hs : s.length ≤ 140737488351232) (hE : Env w) :
    Calls Tryz.prog 16 #[.string ⟨s.toArray⟩] w fun e w' => (∃ v, e = .returned (.tuple #[v, .int .i64 (parseB s).2]) ∧ OwnD w.heap.size w' v (parseB s).1) ∧ Below w.heap.size w w' := by
  have hmf : ∀ (fn : Fn) (first cap : Array Value) (w : World), (Instr.makeFunc fn first cap).run Tryz.prog w = .ok (.func fn first cap) w := fun _ _ _ _ => rfl
  obtain ⟨d, n, hdn⟩ : ∃ d n, parseB s = (d, n) := ⟨_, _, rfl⟩
  rw [hdn]
  simp only
  unfold parseB at hdn
  obtain ⟨PR, hPR⟩ : ∃ PR : Ending → World → Prop, PR = fun e w' => (∃ v, e = .returned (.tuple #[v, .int .i64 n]) ∧ OwnD w.heap.size w' v d) ∧ Below w.heap.size w w' := ⟨_, rfl⟩
  rw [← hPR]
  have HP := Lib.hid hPR
  clear hPR
  by_cases hbig : 65536 < s.length
  · rw [if_pos hbig] at hdn
    cases hdn
    have q1 : decide ((65536 : Int) < (s.length : Int)) = true := decide_eq_true (by omega)
    go_enter_defers Tryz.func16, Tryz.ntmps16
    go_wp2
    simp [bodyPostD, Leaves, results, Tryz.results16, go_sem]
    rw [HP.out]
    exact ⟨⟨_, rfl, OwnD.nil _ _⟩, ((Below.refl _ _).alloc (Nat.le_refl _) _).alloc (by simp) _⟩
  · rw [if_neg hbig] at hdn
    have q1 : decide ((65536 : Int) < (s.length : Int)) = false := decide_eq_false (by omega)
    have hbA : Below w.heap.size w (((w.alloc (.cells #[.slice none 0 0] 60)).alloc (.cells #[.int .i64 0] 48)).alloc (.cells #[.string ⟨s.toArray⟩, .int .i64 0] 138)) := (((Below.refl _ _).alloc (Nat.le_refl _) _).alloc (by simp) _).alloc (by simp; omega) _
    have hRA : RAt (((w.alloc (.cells #[.slice none 0 0] 60)).alloc (.cells #[.int .i64 0] 48)).alloc (.cells #[.string ⟨s.toArray⟩, .int .i64 0] 138)) (w.heap.size + 1 + 1) s 0 := alloc_at _ _ _ (by simp)
    have hOA : (((w.alloc (.cells #[.slice none 0 0] 60)).alloc (.cells #[.int .i64 0] 48)).alloc (.cells #[.string ⟨s.toArray⟩, .int .i64 0] 138)).heap[w.heap.size]? = some (.cells #[.slice none 0 0] 60 (0, 0)) :=
      (Lib.alloc_old _ _ _ (by simp; omega)).trans ((Lib.alloc_old _ _ _ (by simp)).trans (alloc_at _ _ _ rfl))
    have hNA : (((w.alloc (.cells #[.slice none 0 0] 60)).alloc (.cells #[.int .i64 0] 48)).alloc (.cells #[.string ⟨s.toArray⟩, .int .i64 0] 138)).heap[w.heap.size + 1]? = some (.cells #[.int .i64 0] 48 (0, 0)) :=
      (Lib.alloc_old _ _ _ (by simp)).trans (alloc_at _ _ _ (by simp))
    have hszA : (((w.alloc (.cells #[.slice none 0 0] 60)).alloc (.cells #[.int .i64 0] 48)).alloc (.cells #[.string ⟨s.toArray⟩, .int .i64 0] 138)).heap.size = w.heap.size + 3 := by simp
    go_enter_defers Tryz.func16, Tryz.ntmps16
    go_wp2_with fail
    generalize ((w.alloc (.cells #[.slice none 0 0] 60)).alloc (.cells #[.int .i64 0] 48)).alloc (.cells #[.string ⟨s.toArray⟩, .int .i64 0] 138) = wA at hbA hRA hOA hNA hszA ⊢
    have kn := name_any (w.heap.size + 1 + 1) s wA hRA (by omega) ⟨w, hE, by omega, hbA⟩
    rw [hszA] at kn
    cases hn : nameB s with
    | none =>
      rw [hn] at kn hdn
      cases hdn
      refine Calls.mono (show Calls _ _ _ _ _ from kn) ?_
      rintro e w1 ⟨rfl, hk1⟩
      have hO1 := hk1.block hOA (by omega)
      have hN1 := hk1.block hNA (by omega)
      have hb1 := hbA.trans (hk1.below (n := w.heap.size) (by omega) (by omega))
      go_wp2
      refine leaves_cons (f := 115) (args := #[.pointer (some ⟨w.heap.size, 0, none⟩), .pointer (some ⟨w.heap.size + 1, 0, none⟩)]) (by simp) (by simp [go_sem]) ?_
      refine (catch_panicking w.heap.size (w.heap.size + 1) (.slice none 0 0) (.int .i64 0) w1 (by omega) (by rw [Lib.cell_of_heap hO1]; rfl) (Lib.frozen_of_heap hO1 0) (by rw [Lib.cell_of_heap hN1]; rfl) (Lib.frozen_of_heap hN1 0)).mono ?_
      rintro e u' w2 ⟨rfl, rfl, rfl⟩
      obtain ⟨f1, f2⟩ := both_set w1 w.heap.size (w.heap.size + 1) _ _ _ _ (.slice none 0 0) (.int .i64 30) (by omega) hO1 hN1
      have hbF := (hb1.setCell (p := ⟨w.heap.size, 0, none⟩) (Nat.le_refl _) (.slice none 0 0)).setCell (p := ⟨w.heap.size + 1, 0, none⟩) (by simp) (.int .i64 30)
      generalize (w1.setCell ⟨w.heap.size, 0, none⟩ (.slice none 0 0)).setCell ⟨w.heap.size + 1, 0, none⟩ (.int .i64 30) = wF at f1 f2 hbF ⊢
      simp [Leaves, settle, results, Tryz.results16, go_sem, f1, f2]
      rw [HP.out]
      exact ⟨⟨_, rfl, OwnD.nil _ _⟩, hbF⟩
    | some d' =>
      rw [hn] at kn hdn
      simp only at hdn
      refine Calls.mono (show Calls _ _ _ _ _ from kn) ?_
      rintro e w1 ⟨⟨v, rfl, hv⟩, hk1⟩
      have hO1 := hk1.block hOA (by omega)
      have hN1 := hk1.block hNA (by omega)
      have hb1 := hbA.trans (hk1.below (n := w.heap.size) (by omega) (by omega))
      have kt := tooLong_any v d' w1 hv.at
      obtain ⟨av, cv, hve⟩ : ∃ av cv, v = .slice av d'.length cv := by obtain ⟨a, c, h, _⟩ := hv.at; exact ⟨a, c, h⟩
      cases hlong : longB d' with
      | true =>
        rw [hlong] at kt hdn
        simp only [if_true] at hdn
        cases hdn
        obtain ⟨p0, p1⟩ : w1.cell? ⟨w.heap.size, 0, none⟩ = some (.slice none 0 0) ∧ w1.frozen? ⟨w.heap.size, 0, none⟩ = false := ⟨by rw [Lib.cell_of_heap hO1]; rfl, Lib.frozen_of_heap hO1 0⟩
        subst hve
        go_wp2_with (go_at_call 117; refine Calls.mono (show Calls _ _ _ _ _ from kt) ?_; rintro e w2 ⟨rfl, hb2⟩; have hO2 := (hb2.block w.heap.size (Array.getElem?_eq_some_iff.1 hO1).1).trans hO1; have hN2 := (hb2.block (w.heap.size + 1) (Array.getElem?_eq_some_iff.1 hN1).1).trans hN1; have g0 : w2.cell? ⟨w.heap.size, 0, none⟩ = some (.slice none 0 0) := (by rw [Lib.cell_of_heap hO2]; rfl); have g1 : w2.frozen? ⟨w.heap.size, 0, none⟩ = false := Lib.frozen_of_heap hO2 0; have g2 : w2.cell? ⟨w.heap.size + 1, 0, none⟩ = some (.int .i64 0) := (by rw [Lib.cell_of_heap hN2]; rfl); have g3 : w2.frozen? ⟨w.heap.size + 1, 0, none⟩ = false := Lib.frozen_of_heap hN2 0)
        obtain ⟨f1, f2⟩ := both_set w2 w.heap.size (w.heap.size + 1) _ _ _ _ (.slice none 0 0) (.int .i64 2) (by omega) hO2 hN2
        have hb3 := hb1.trans (hb2.mono hb1.size)
        have hbF := (hb3.setCell (p := ⟨w.heap.size, 0, none⟩) (Nat.le_refl _) (.slice none 0 0)).setCell (p := ⟨w.heap.size + 1, 0, none⟩) (by simp) (.int .i64 2)
        have hvF := ((hv.kept (b := w.heap.size) (Kept.of_below hb2) (by omega)).kept (Kept.set w.heap.size w2 0 (.slice none 0 0)) (by omega)).kept (Kept.set (w.heap.size + 1) _ 0 (.int .i64 2)) (by omega)
        clear g0 g1 g2 g3
        generalize (w2.setCell ⟨w.heap.size, 0, none⟩ (.slice none 0 0)).setCell ⟨w.heap.size + 1, 0, none⟩ (.int .i64 2) = wF at f1 f2 hbF hvF ⊢
        refine leaves_cons (f := 115) (args := #[.pointer (some ⟨w.heap.size, 0, none⟩), .pointer (some ⟨w.heap.size + 1, 0, none⟩)]) (by simp) (by simp [go_sem]) ?_
        refine (catch_idle w.heap.size (w.heap.size + 1) wF).mono ?_
        rintro e u' w3 ⟨rfl, rfl, hw3⟩
        rw [hw3]
        simp [Leaves, settle, results, Tryz.results16, go_sem, f1, f2]
        rw [HP.out]
        exact ⟨⟨_, rfl, OwnD.nil _ _⟩, hbF⟩
      | false =>
        rw [hlong] at kt hdn
        simp only [Bool.false_eq_true, if_false] at hdn
        cases hdn
        obtain ⟨p0, p1⟩ : w1.cell? ⟨w.heap.size, 0, none⟩ = some (.slice none 0 0) ∧ w1.frozen? ⟨w.heap.size, 0, none⟩ = false := ⟨by rw [Lib.cell_of_heap hO1]; rfl, Lib.frozen_of_heap hO1 0⟩
        subst hve
        go_wp2_with (go_at_call 117; refine Calls.mono (show Calls _ _ _ _ _ from kt) ?_; rintro e w2 ⟨rfl, hb2⟩; have hO2 := (hb2.block w.heap.size (Array.getElem?_eq_some_iff.1 hO1).1).trans hO1; have hN2 := (hb2.block (w.heap.size + 1) (Array.getElem?_eq_some_iff.1 hN1).1).trans hN1; have g0 : w2.cell? ⟨w.heap.size, 0, none⟩ = some (.slice none 0 0) := (by rw [Lib.cell_of_heap hO2]; rfl); have g1 : w2.frozen? ⟨w.heap.size, 0, none⟩ = false := Lib.frozen_of_heap hO2 0; have g2 : w2.cell? ⟨w.heap.size + 1, 0, none⟩ = some (.int .i64 0) := (by rw [Lib.cell_of_heap hN2]; rfl); have g3 : w2.frozen? ⟨w.heap.size + 1, 0, none⟩ = false := Lib.frozen_of_heap hN2 0)
        obtain ⟨f1, f2⟩ := both_set w2 w.heap.size (w.heap.size + 1) _ _ _ _ (.slice av d.length cv) (.int .i64 0) (by omega) hO2 hN2
        have hb3 := hb1.trans (hb2.mono hb1.size)
        have hbF := (hb3.setCell (p := ⟨w.heap.size, 0, none⟩) (Nat.le_refl _) (.slice av d.length cv)).setCell (p := ⟨w.heap.size + 1, 0, none⟩) (by simp) (.int .i64 0)
        have hvF := ((hv.kept (b := w.heap.size) (Kept.of_below hb2) (by omega)).kept (Kept.set w.heap.size w2 0 (.slice av d.length cv)) (by omega)).kept (Kept.set (w.heap.size + 1) _ 0 (.int .i64 0)) (by omega)
        clear g0 g1 g2 g3
        generalize (w2.setCell ⟨w.heap.size, 0, none⟩ (.slice av d.length cv)).setCell ⟨w.heap.size + 1, 0, none⟩ (.int .i64 0) = wF at f1 f2 hbF hvF ⊢
        refine leaves_cons (f := 115) (args := #[.pointer (some ⟨w.heap.size, 0, none⟩), .pointer (some ⟨w.heap.size + 1, 0, none⟩)]) (by simp) (by simp [go_sem]) ?_
        refine (catch_idle w.heap.size (w.heap.size + 1) wF).mono ?_
        rintro e u' w3 ⟨rfl, rfl, hw3⟩
        rw [hw3]
        simp [Leaves, settle, results, Tryz.results16, go_sem, f1, f2]
        rw [HP.out]
        exact ⟨⟨_, rfl, hvF.mono (Nat.le_add_right _ _)⟩, hbF⟩
theorem Parse_any (s : List UInt8) (w : World) (hs : s.length ≤ 140737488351232) (hE : Env w) :
    Calls Tryz.prog 16 #[.string ⟨s.toArray⟩] w fun e w' => (∃ v, e = .returned (.tuple #[v, .int .i64 (parseB s).2]) ∧ DnAt w' v (parseB s).1) ∧ Below w.heap.size w w' :=
  (Parse_own s w hs hE).mono fun _ _ ⟨⟨v, h1, h2⟩, hb⟩ => ⟨⟨v, h1, h2.at⟩, hb⟩
end Go.Proofs.YtegigcneimjimaaGreatDoor
