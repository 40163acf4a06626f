/- chancerylaw4: the law DnBack. -/
import Derived.Test.YtldcfilhgdjaeaaDoorDnS
import Derived.Test.YtldcfilhgdjaeaaDoorDnAl
import Derived.Test.YtldcfilhgdjaeaaDoorPlainBack
import Derived.Deep.DeepCutAuto
namespace Go.Proofs.YtldcfilhgdjaeaaDoor
open Go.RowKit Go.Lib

theorem parse_len (s : List UInt8) : (parseB s).1.length ≤ 20 ∧ ∀ r ∈ (parseB s).1, r.length ≤ 4 := by
  have key : ∀ d, longB d = false → d.length ≤ 20 ∧ ∀ r ∈ d, r.length ≤ 4 := by
    intro d hl
    unfold longB at hl
    simp only [Bool.or_eq_false_iff, decide_eq_false_iff_not, List.any_eq_false, Bool.or_eq_true, decide_eq_true_eq, not_or] at hl
    exact ⟨by omega, fun x hx => by have := (hl.2 x hx).1; omega⟩
  unfold parseB
  split
  · exact ⟨by simp, fun r hr => by cases hr⟩
  · split
    · exact ⟨by simp, fun r hr => by cases hr⟩
    · split
      · exact ⟨by simp, fun r hr => by cases hr⟩
      · rename_i h
        exact key _ (by simpa using h)
theorem parse_types (s : List UInt8) : ∀ r ∈ (parseB s).1, ∀ a ∈ r, a.1.length ≤ 64 := by
  unfold parseB
  split
  · exact fun r hr => by cases hr
  · split
    · exact fun r hr => by cases hr
    · rename_i d hn
      split
      · exact fun r hr => by cases hr
      · intro r hr a ha
        have h := nameB_right hn
        unfold rightB at h
        have h1 := List.all_eq_true.1 h r hr
        rw [Bool.and_eq_true, List.all_eq_true] at h1
        exact isTy_len (h1.2 a ha)
/-- The rest of the law, behind the first name. -/
theorem print_len (d : List (List Av)) : (printB d).1.length ≤ 65536 := by
  unfold printB
  split
  · simp
  · split
    · simp
    · split
      · simp
      · simp only; omega
set_option maxRecDepth 100000 in
set_option maxHeartbeats 2000000 in
theorem DnBack_any (v : Value) (d : List (List Av)) (s : List UInt8) (w : World) (h : DnAt w v d) (hd : d.length ≤ 140737488355328) (hr : ∀ r ∈ d, r.length ≤ 140737488355328) (ha : ∀ r ∈ d, ∀ a ∈ r, a.1.length ≤ 140737488355328) (hs : s.length ≤ 140737488351232) (hE : Env w) :
    Calls Tryd.prog 3 #[v, .string ⟨s.toArray⟩] w fun e w' => e = .returned (.bool true) ∧ Below w.heap.size w w' := by
  obtain ⟨av, cv, hve, hcv, hxv⟩ := id h
  subst hve
  have HR := Lib.hid hr
  clear hxv hr
  by_cases hbig : 200 < d.length ∨ 9000 < s.length
  · have k := alive_any w hE
    have q0 : decide ((200 : Int) < (d.length : Int)) = true ∨ decide ((200 : Int) < (d.length : Int)) = false ∧ decide ((9000 : Int) < (s.length : Int)) = true := by simp; omega
    rcases q0 with q0 | ⟨q0, q1⟩
    all_goals
      go_enter Tryd.func3, Tryd.ntmps3
      go_wp2_with (go_at_call 7; refine k.mono ?_; rintro e w1 ⟨rfl, hb1⟩)
      go_ret
      exact ⟨rfl, hb1⟩
  · have q0 : decide ((200 : Int) < (d.length : Int)) = false := decide_eq_false (by omega)
    have q1 : decide ((9000 : Int) < (s.length : Int)) = false := decide_eq_false (by omega)
    have k1 := Print_any _ d w h hE ha hd HR.out
    have hpl := print_len d
    have hpp := parse_print d (printB d).1
    have hle := parse_len s
    have hty := parse_types s
    have hpr := print_parse s (parseB s).1
    have hpe := parse_err s
    obtain ⟨t, n, htn⟩ : ∃ t n, printB d = (t, n) := ⟨_, _, rfl⟩
    obtain ⟨x, m, hxm⟩ : ∃ x m, parseB s = (x, m) := ⟨_, _, rfl⟩
    rw [htn] at k1 hpl hpp
    rw [hxm] at hle hty hpr hpe
    simp only [Prod.mk.injEq, true_and] at k1 hpl hpp hle hty hpr hpe
    have HX := Lib.hid hxm
    clear htn hxm
    have HL := Lib.hid hle.2
    have HT := Lib.hid hty
    have hx20 := hle.1
    have HPR := Lib.hid hpr
    have HPE := Lib.hid hpe
    have HPP := Lib.hid hpp
    have hxb : x.length ≤ 140737488355328 := by omega
    have hxr : ∀ r ∈ x, r.length ≤ 140737488355328 := fun r hr => by have := HL.out r hr; omega
    have hxt : ∀ r ∈ x, ∀ a ∈ r, a.1.length ≤ 140737488355328 := fun r hr a ha => by have := HT.out r hr a ha; omega
    have H1 := Lib.hid hxr
    have H2 := Lib.hid hxt
    have hs2 : s.length ≤ 140737488351232 := hs
    have ht2 : t.length ≤ 140737488351232 := by omega
    clear hle hty hpr hpe hpp ha hxr hxt
    go_enter Tryd.func3, Tryd.ntmps3
    go_upto_if 28 with (go_at_call 8; refine Calls.mono (show Calls _ _ _ _ _ from k1) ?_; rintro e w1 ⟨rfl, hb1⟩)
    go_cut [] (fun wx => Below w.heap.size w wx)
    case first =>
      by_cases hn : n = 0
      · subst hn
        have k2 := Parse_any t w1 ht2 (hE.below hb1)
        rw [HPP.out rfl] at k2
        simp only at k2
        go_wp2_with fail
        refine Calls.mono (show Calls _ _ _ _ _ from k2) ?_
        rintro e w2 ⟨⟨v2, rfl, hv2⟩, hb2⟩
        have hbw2 := below_ext hb1 hb2
        have k3 := Same_any v2 _ _ _ w2 hv2 (h.below hbw2) hd hd HR.out HR.out
        rw [decide_eq_true rfl] at k3
        go_wp2_with fail
        refine Calls.mono (show Calls _ _ _ _ _ from k3) ?_
        rintro e w3 ⟨rfl, hb3⟩
        go_wp2_with fail
        go_meet
        exact below_ext hbw2 hb3
      · have hnb : (n == 0) = false := by simpa using hn
        go_wp2_with fail
        go_meet
        exact hb1
    case rest =>
      have hbc : Below w.heap.size w wc := hcut
      have k4 := Parse_any s wc hs2 (hE.below hbc)
      rw [HX.out] at k4
      simp only at k4
      by_cases hm : m = 0
      · subst hm
        go_wp2_with fail
        refine Calls.mono (show Calls _ _ _ _ _ from k4) ?_
        rintro e w4 ⟨⟨v4, rfl, hv4⟩, hb4⟩
        have hbw4 := below_ext hbc hb4
        have k5 := Print_any v4 x w4 hv4 (hE.below hbw4) H2.out hxb H1.out
        have hpl2 := print_len x
        have hpp2 := parse_print x (printB x).1
        have hpr2 := HPR.out
        obtain ⟨t2, n2, htn2⟩ : ∃ t n, printB x = (t, n) := ⟨_, _, rfl⟩
        rw [htn2] at k5 hpl2 hpp2 hpr2
        simp only [Prod.mk.injEq, true_and] at k5 hpl2 hpp2 hpr2
        have HPP2 := Lib.hid hpp2
        clear htn2 hpp2
        rcases hpr2 trivial with hn2 | hn2
        · subst hn2
          go_wp2_with fail
          refine Calls.mono (show Calls _ _ _ _ _ from k5) ?_
          rintro e w5 ⟨rfl, hb5⟩
          have hbw5 := below_ext hbw4 hb5
          have k6 := Parse_any t2 w5 (by omega) (hE.below hbw5)
          rw [HPP2.out trivial] at k6
          simp only at k6
          go_wp2_with fail
          refine Calls.mono (show Calls _ _ _ _ _ from k6) ?_
          rintro e w6 ⟨⟨v6, rfl, hv6⟩, hb6⟩
          have hbw6 := below_ext hbw5 hb6
          have k7 := alive_any w6 (hE.below hbw6)
          go_wp2_with fail
          refine Calls.mono (show Calls _ _ _ _ _ from k7) ?_
          rintro e w7 ⟨rfl, hb7⟩
          have hbw7 := below_ext hbw6 hb7
          have k8 := Same_any v4 v6 _ _ w7 (((hv4.below hb5).below hb6).below hb7) (hv6.below hb7) hxb hxb H1.out H1.out
          rw [decide_eq_true rfl] at k8
          go_wp2_with fail
          refine Calls.mono (show Calls _ _ _ _ _ from k8) ?_
          rintro e w8 ⟨rfl, hb8⟩
          go_wp2_with fail
          go_ret
          exact ⟨rfl, below_ext hbw7 hb8⟩
        · subst hn2
          go_wp2_with fail
          refine Calls.mono (show Calls _ _ _ _ _ from k5) ?_
          rintro e w5 ⟨rfl, hb5⟩
          have hbw5 := below_ext hbw4 hb5
          have k6 := alive_any w5 (hE.below hbw5)
          go_wp2_with fail
          refine Calls.mono (show Calls _ _ _ _ _ from k6) ?_
          rintro e w6 ⟨rfl, hb6⟩
          go_wp2_with fail
          go_ret
          exact ⟨rfl, below_ext hbw5 hb6⟩
      · have hx0 : x = [] := HPE.out hm
        have hmb : (m == 0) = false := by simpa using hm
        have hmn : (m != 0) = true := by simpa using hm
        go_wp2_with fail
        refine Calls.mono (show Calls _ _ _ _ _ from k4) ?_
        rintro e w4 ⟨⟨v4, rfl, hv4⟩, hb4⟩
        have hbw4 := below_ext hbc hb4
        obtain ⟨a4, c4, hv4e, _, _⟩ := hv4
        subst hx0
        subst hv4e
        have k5 := alive_any w4 (hE.below hbw4)
        go_wp2_with fail
        refine Calls.mono (show Calls _ _ _ _ _ from k5) ?_
        rintro e w5 ⟨rfl, hb5⟩
        go_wp2_with fail
        go_ret
        exact ⟨rfl, below_ext hbw4 hb5⟩
end Go.Proofs.YtldcfilhgdjaeaaDoor
