/- chancerylaw4: the law DnJoined. -/
import Derived.Test.YtldcfilhgdjaeaaDoorDnJ
import Derived.Test.YtldcfilhgdjaeaaDoorDnS
import Derived.Test.YtldcfilhgdjaeaaDoorDnAl
namespace Go.Proofs.YtldcfilhgdjaeaaDoor
open Go.RowKit Go.Lib

set_option maxRecDepth 100000 in
set_option maxHeartbeats 2000000 in
theorem DnJoined_any (v u : Value) (d : List (List Av)) (r : List Av) (w : World) (h : DnAt w v d) (hu : AvsAt w u r) (hd : d.length * 24 ≤ 140737488351232) (hb : ∀ x ∈ r :: d, x.length * 32 ≤ 140737488351232) (hE : Env w) :
    Calls Tryd.prog 6 #[v, u] w fun e w' => e = .returned (.bool true) ∧ Below w.heap.size w w' := by
  obtain ⟨av, cv, hve, hcv, hxv⟩ := id h
  obtain ⟨au, cu, hue, hcu, hxu⟩ := id hu
  subst hve hue
  have HB := Lib.hid hb
  have hrl : r.length * 32 ≤ 140737488351232 := hb r (List.mem_cons_self ..)
  have hbl : ∀ x ∈ r :: d, x.length ≤ 1099511627776 * 16 := fun x hx => by have := hb x hx; omega
  clear hxv hxu hb
  by_cases hbig : 200 < d.length ∨ 200 < r.length
  · have k := alive_any w hE
    have q0 : decide ((200 : Int) < (d.length : Int)) = true ∨ decide ((200 : Int) < (d.length : Int)) = false ∧ decide ((200 : Int) < (r.length : Int)) = true := by simp; omega
    rcases q0 with q0 | ⟨q0, q1⟩
    all_goals
      go_enter Tryd.func6, Tryd.ntmps6
      go_wp2_with (go_at_call 7; refine k.mono ?_; rintro e w1 ⟨rfl, hb1⟩)
      go_ret
      exact ⟨rfl, hb1⟩
  · have q0 : decide ((200 : Int) < (d.length : Int)) = false := decide_eq_false (by omega)
    have q1 : decide ((200 : Int) < (r.length : Int)) = false := decide_eq_false (by omega)
    have hdl : d.length ≤ 140737488355328 := by omega
    have hb1 : ∀ x ∈ d, x.length ≤ 140737488355328 := fun x hx => by have := HB.out x (List.mem_cons_of_mem _ hx); omega
    have hb2 : ∀ x ∈ d, x.length * 32 ≤ 140737488351232 := fun x hx => HB.out x (List.mem_cons_of_mem _ hx)
    have hd3 : (d.length + 1) * 24 ≤ 140737488351232 := by omega
    have hd4 : d.length ≤ 1000000 := by omega
    have H1 := Lib.hid hb1
    have H2 := Lib.hid hb2
    have k1 := Join_any _ _ r d w hu h (by omega) HB.out
    clear hbl hb1 hb2 hrl
    by_cases hd0 : d = []
    · subst hd0
      go_enter Tryd.func6, Tryd.ntmps6
      go_wp2_with fail
      refine Calls.mono (show Calls _ _ _ _ _ from k1) ?_
      rintro e w1 ⟨⟨v1, rfl, hv1⟩, hb1⟩
      have k2 := Parent_any v1 _ w1 hv1 (by simp) HB.out
      go_wp2_with fail
      refine Calls.mono (show Calls _ _ _ _ _ from k2) ?_
      rintro e w2 ⟨⟨v2, rfl, hv2⟩, hb2⟩
      change DnAt w2 v2 [] at hv2
      have hbw2 := below_ext hb1 hb2
      have k3 := Same_any v2 _ _ _ w2 hv2 (h.below hbw2) (by simp) (by simp) (by simp) (by simp)
      rw [decide_eq_true rfl] at k3
      go_wp2_with fail
      refine Calls.mono (show Calls _ _ _ _ _ from k3) ?_
      rintro e w3 ⟨rfl, hb3⟩
      have hbw3 := below_ext hbw2 hb3
      have k4 := Parent_any _ _ w3 (h.below hbw3) (by simp) (by simp)
      go_wp2_with fail
      refine Calls.mono (show Calls _ _ _ _ _ from k4) ?_
      rintro e w4 ⟨⟨v4, rfl, hv4⟩, hb4⟩
      have hbw4 := below_ext hbw3 hb4
      have k5 := alive_any w4 (hE.below hbw4)
      go_wp2_with fail
      refine Calls.mono (show Calls _ _ _ _ _ from k5) ?_
      rintro e w5 ⟨rfl, hb5⟩
      go_wp2_with fail
      go_ret
      exact ⟨rfl, below_ext hbw4 hb5⟩
    · obtain ⟨x, t, hxt⟩ := List.exists_cons_of_ne_nil hd0
      obtain ⟨a', c', e', _, hc'⟩ := id h
      obtain ⟨g, o, ha, _⟩ := hc' hd0
      cases e'
      subst ha
      clear hc'
      rename_i hclr
      clear hclr
      have hp : 0 < d.length := List.length_pos_iff.2 hd0
      have g2 : (0 : Int) < (d.length : Int) := by omega
      have g1 : decide ((0 : Int) < (d.length : Int)) = true := decide_eq_true g2
      have hne : d.isEmpty = false := by cases d <;> simp_all
      have hd2 : (r :: d).length * 24 ≤ 140737488351232 := hd3
      have ht2 : t.length ≤ 1000000 := by rw [hxt, List.length_cons] at hd4; exact Nat.le_of_succ_le hd4
      have hx2 : ∀ y ∈ x :: t, y.length * 32 ≤ 140737488351232 := by rw [← hxt]; exact H2.out
      have H3 := Lib.hid hx2
      have ht : d.tail = t := by rw [hxt]; rfl
      have H4 := Lib.hid ht
      have hx0 : d[0]? = some x := by rw [hxt]; rfl
      have H5 := Lib.hid hx0
      have H6 := Lib.hid hxt
      have H7 := Lib.hid hne
      have H8 := Lib.hid hd0
      clear hd3 hd4 hx2 ht hx0 hxt hne hd0
      go_enter Tryd.func6, Tryd.ntmps6
      go_wp2_with fail
      refine Calls.mono (show Calls _ _ _ _ _ from k1) ?_
      rintro e w1 ⟨⟨v1, rfl, hv1⟩, hb1⟩
      have k2 := Parent_any v1 _ w1 hv1 hd2 HB.out
      go_wp2_with fail
      refine Calls.mono (show Calls _ _ _ _ _ from k2) ?_
      rintro e w2 ⟨⟨v2, rfl, hv2⟩, hb2⟩
      change DnAt w2 v2 d at hv2
      have hbw2 := below_ext hb1 hb2
      have k3 := Same_any v2 _ _ _ w2 hv2 (h.below hbw2) hdl hdl H1.out H1.out
      rw [decide_eq_true rfl] at k3
      go_wp2_with fail
      refine Calls.mono (show Calls _ _ _ _ _ from k3) ?_
      rintro e w3 ⟨rfl, hb3⟩
      have hbw3 := below_ext hbw2 hb3
      have k4 := Parent_any _ _ w3 (h.below hbw3) hd H2.out
      rw [H7.out] at k4
      go_wp2_with fail
      refine Calls.mono (show Calls _ _ _ _ _ from k4) ?_
      rintro e w4 ⟨⟨v4, rfl, hv4⟩, hb4⟩
      rw [H4.out] at hv4
      have hbw4 := below_ext hbw3 hb4
      have k5 := alive_any w4 (hE.below hbw4)
      go_wp2_with fail
      refine Calls.mono (show Calls _ _ _ _ _ from k5) ?_
      rintro e w5 ⟨rfl, hb5⟩
      have hbw5 := below_ext hbw4 hb5
      have h5 := h.below hbw5
      obtain ⟨a6, c6, e6, _, hc6⟩ := id h5
      obtain ⟨g6, o6, ha6, hcc⟩ := hc6 H8.out
      cases e6
      cases ha6
      obtain ⟨ux, p1, hux⟩ := hcc 0 x H5.out
      clear hcc hc6
      rw [Nat.add_zero] at p1
      have k6 := Join_any ux v4 x t w5 hux (hv4.below hb5) ht2 H3.out
      rw [← H6.out] at k6
      go_wp2_with fail
      refine Calls.mono (show Calls _ _ _ _ _ from k6) ?_
      rintro e w6 ⟨⟨v6, rfl, hv6⟩, hb6⟩
      have hbw6 := below_ext hbw5 hb6
      have k7 := Same_any v6 _ _ _ w6 hv6 (h5.below hb6) hdl hdl H1.out H1.out
      rw [decide_eq_true rfl] at k7
      go_wp2_with fail
      refine Calls.mono (show Calls _ _ _ _ _ from k7) ?_
      rintro e w7 ⟨rfl, hb7⟩
      go_wp2_with fail
      go_ret
      exact ⟨rfl, below_ext hbw6 hb7⟩
end Go.Proofs.YtldcfilhgdjaeaaDoor
