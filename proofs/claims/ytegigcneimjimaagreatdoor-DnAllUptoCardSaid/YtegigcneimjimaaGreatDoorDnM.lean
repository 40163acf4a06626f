/- dn.tooLong: what it returns. -/
import Derived.Test.YtegigcneimjimaaGreatDoorDnL
namespace Go.Proofs.YtegigcneimjimaaGreatDoor
open Go.RowKit Go.Lib

set_option maxRecDepth 100000 in
theorem long11_any (x : Av) (w : World) :
    Calls Tryz.prog 203 #[.agg #[.string ⟨x.1.toArray⟩, .string ⟨x.2.toArray⟩]] w fun e w' => e = .returned (.bool (decide (1024 < x.2.length))) ∧ Below w.heap.size w w' := by
  have hq : decide ((1024 : Int) < (x.2.length : Int)) = decide (1024 < x.2.length) := decide_eq_decide.2 (by omega)
  generalize decide (1024 < x.2.length) = q at hq ⊢
  go_enter Tryz.func203, Tryz.ntmps203
  go_wp2
  go_ret
  exact ⟨rfl, (Below.refl _ _).alloc (Nat.le_refl _) _⟩
def longP (r : List Av) : Bool := decide (4 < r.length) || r.any (fun a => decide (1024 < a.2.length))
set_option maxRecDepth 100000 in
theorem long1_any (u : Value) (r : List Av) (w : World) (h : AvsAt w u r) :
    Calls Tryz.prog 202 #[u] w fun e w' => e = .returned (.bool (longP r)) ∧ Below w.heap.size w w' := by
  unfold longP
  have hq : decide ((4 : Int) < (r.length : Int)) = decide (4 < r.length) := decide_eq_decide.2 (by omega)
  by_cases h4 : 4 < r.length
  · rw [decide_eq_true h4] at hq ⊢
    obtain ⟨a, cap, rfl, hc, hcell⟩ := h
    clear hcell
    rw [Bool.true_or]
    go_enter Tryz.func202, Tryz.ntmps202
    go_wp2_with fail
    go_ret
    exact ⟨rfl, Below.refl _ _⟩
  · rw [decide_eq_false h4] at hq ⊢
    have k1 := long1_contains u r w h (by omega) (fun a => decide (1024 < a.2.length)) (fun x _ w1 _ => long11_any x w1)
    obtain ⟨a, cap, rfl, hc, hcell⟩ := h
    clear hcell
    rw [Bool.false_or]
    generalize r.any (fun a => decide (1024 < a.2.length)) = q at k1 ⊢
    go_enter Tryz.func202, Tryz.ntmps202
    go_wp2_with (go_at_call 124; refine Calls.mono (show Calls _ _ _ _ _ from k1) ?_; rintro e w2 ⟨rfl, hb2⟩)
    go_ret
    exact ⟨rfl, hb2⟩
set_option maxRecDepth 100000 in
theorem tooLong_any (v : Value) (d : List (List Av)) (w : World) (h : DnAt w v d) :
    Calls Tryz.prog 117 #[v] w fun e w' => e = .returned (.bool (longB d)) ∧ Below w.heap.size w w' := by
  unfold longB
  have hq : decide ((20 : Int) < (d.length : Int)) = decide (20 < d.length) := decide_eq_decide.2 (by omega)
  by_cases h4 : 20 < d.length
  · rw [decide_eq_true h4] at hq ⊢
    obtain ⟨a, cap, rfl, hc, hcell⟩ := h
    clear hcell
    rw [Bool.true_or]
    go_enter Tryz.func117, Tryz.ntmps117
    go_wp2_with fail
    go_ret
    exact ⟨rfl, Below.refl _ _⟩
  · rw [decide_eq_false h4] at hq ⊢
    have k1 := long2_contains v d w h (by omega) longP (fun x _ u w1 _ hu => long1_any u x w1 hu)
    obtain ⟨a, cap, rfl, hc, hcell⟩ := h
    clear hcell
    rw [Bool.false_or]
    show Calls _ _ _ _ fun e w' => e = .returned (.bool (d.any longP)) ∧ _
    generalize d.any longP = q at k1 ⊢
    go_enter Tryz.func117, Tryz.ntmps117
    go_wp2_with (go_at_call 201; refine Calls.mono (show Calls _ _ _ _ _ from k1) ?_; rintro e w2 ⟨rfl, hb2⟩)
    go_ret
    exact ⟨rfl, hb2⟩
end Go.Proofs.YtegigcneimjimaaGreatDoor
