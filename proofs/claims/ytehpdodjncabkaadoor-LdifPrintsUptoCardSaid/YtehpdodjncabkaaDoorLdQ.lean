/- ldif.Print: every record. -/
import Derived.Test.YtehpdodjncabkaaDoorLdP
namespace Go.Proofs.YtehpdodjncabkaaDoor
open Go.RowKit Go.Lib

theorem IsW_new (w : World) : IsW w.heap.size w.heap.size [] (w.alloc (.cells #[.pointer none, .slice none 0 0] 62)) :=
  .inl ⟨Nat.le_refl _, .slice none 0 0, alloc_at _ _ _ rfl, World.ownsRow_nil _ _ _ _, by simp [Value.ownBlock]⟩
theorem lineB_le (n v : List UInt8) : v.length ≤ (lineB n v).length := by
  unfold lineB
  split
  · simp; omega
  · simp only [List.length_append, b64_length v.length v (Nat.le_refl _)]
    simp
    omega
theorem chg_cells {g : Nat} {c : Chg} {vA vM : Value} {W : World} (h : W.heap[g]? = some (.cells (chgA c vA vM) 25 (0, 0))) :
    (W.cell? ⟨g, 0, none⟩ = some (.string ⟨c.time.toArray⟩) ∧ W.cell? ⟨g, 1, none⟩ = some (.string ⟨c.who.toArray⟩) ∧ W.cell? ⟨g, 2, none⟩ = some (.string ⟨c.dn.toArray⟩) ∧ W.cell? ⟨g, 3, none⟩ = some (.int .i64 c.kind)) ∧
    W.cell? ⟨g, 4, none⟩ = some vA ∧ W.cell? ⟨g, 5, none⟩ = some vM ∧ W.cell? ⟨g, 6, none⟩ = some (.string ⟨c.newRdn.toArray⟩) ∧ W.cell? ⟨g, 7, none⟩ = some (.string ⟨c.newSup.toArray⟩) ∧ W.cell? ⟨g, 8, none⟩ = some (.bool c.delOld) ∧ W.cell? ⟨g, 9, none⟩ = some (.bool c.hasSup) := by
  refine ⟨⟨?_, ?_, ?_, ?_⟩, ?_, ?_, ?_, ?_, ?_, ?_⟩ <;> (rw [Lib.cell_of_heap h]; rfl)
theorem lineB_ne (n v : List UInt8) : lineB n v ≠ [] := by
  unfold lineB; split <;> simp
set_option maxRecDepth 100000 in
set_option maxHeartbeats 2000000 in
theorem Print_no (c : Chg) (vA vM : Value) (w : World) (hA : AttrsAt w vA c.attrs) (hM : ModsAt w vM c.mods) (hE : Env w) (hS : Small c) (hr : rightC c = false) :
    Calls Tryd.prog 10 #[.agg (chgA c vA vM)] w fun e w' => e = .returned (.tuple #[.string ⟨#[]⟩, .int .i64 110]) ∧ Below w.heap.size w w' := by
  have b1 : Below w.heap.size w (w.alloc (.cells (chgA c vA vM) 25)) := (Below.refl _ _).alloc (Nat.le_refl _) _
  have k0 := right_any c vA vM (w.alloc (.cells (chgA c vA vM) 25)) (hA.below b1) (hM.below b1) (hE.below b1) hS
  rw [hr] at k0
  unfold chgA at b1 k0 ⊢
  clear hr hA hM
  go_enter Tryd.func10, Tryd.ntmps10
  go_wp2_with (go_at_call 20; refine Calls.mono (show Calls _ _ _ _ _ from k0) ?_; rintro e w1 ⟨rfl, hb1⟩)
  go_ret2
  exact ⟨rfl, b1.trans (hb1.mono (by simp))⟩
set_option maxRecDepth 100000 in
set_option maxHeartbeats 4000000 in
theorem Print_yes (c : Chg) (vA vM : Value) (w : World) (hA : AttrsAt w vA c.attrs) (hM : ModsAt w vM c.mods) (hE : Env w) (hS : Small c) (hr : rightC c = true) :
    Calls Tryd.prog 10 #[.agg (chgA c vA vM)] w fun e w' => e = .returned (.tuple #[.string ⟨(printC c).1.toArray⟩, .int .i64 (printC c).2]) ∧ Below w.heap.size w w' := by
  have hkind : 0 ≤ c.kind ∧ c.kind ≤ 3 := by
    simp only [rightC, onlyC, Bool.and_eq_true, decide_eq_true_eq] at hr
    exact ⟨hr.1.1.1.1.1.1.1, hr.1.1.1.1.1.1.2⟩
  have hmods : modsOk c.mods = true := by
    simp only [rightC, Bool.and_eq_true] at hr
    exact hr.2
  have hlen := hS.2.2.2.2.2 hr
  have hrl := restC_le c
  have hhead : (headC c).length = (lineB [116, 105, 109, 101] c.time).length + (lineB [119, 104, 111] c.who).length + (lineB [100, 110] c.dn).length + (lineB [99, 104, 97, 110, 103, 101, 116, 121, 112, 101] (kindW c.kind)).length := by
    simp [headC]; omega
  have hpr : printC c = if 65536 < (textC c).length then ([], 2) else (textC c, 0) := by simp [printC, hr]
  have hs1 := hS.1
  have b0 : Below w.heap.size w (w.alloc (.cells (chgA c vA vM) 25)) := (Below.refl _ _).alloc (Nat.le_refl _) _
  have k0 := right_any c vA vM (w.alloc (.cells (chgA c vA vM) 25)) (hA.below b0) (hM.below b0) (hE.below b0) hS
  rw [hr] at k0
  have hkb : (w.alloc (.cells (chgA c vA vM) 25)).heap[w.heap.size]? = some (.cells (chgA c vA vM) 25 (0, 0)) := alloc_at _ _ _ rfl
  have hszb : w.heap.size < (w.alloc (.cells (chgA c vA vM) 25)).heap.size := by simp
  obtain ⟨T, hT⟩ : ∃ T, textC c = T := ⟨_, rfl⟩
  have HTX := Lib.hid hT
  have HPR := Lib.hid hpr
  have HS := Lib.hid hS
  have HR := Lib.hid hr
  rw [hT] at hlen
  rw [hT] at hrl
  have HM := Lib.hid hmods
  have HRL := Lib.hid hrl
  have HHD := Lib.hid hhead
  obtain ⟨PS, hPS⟩ : ∃ P, (printC c).1 = P := ⟨_, rfl⟩
  obtain ⟨PE, hPE⟩ : ∃ P, (printC c).2 = P := ⟨_, rfl⟩
  rw [hPS, hPE]
  have HPS := Lib.hid hPS
  have HPE := Lib.hid hPE
  have HA := Lib.hid hA
  have HMo := Lib.hid hM
  clear hT hpr hS hr hmods hrl hhead hPS hPE hA hM
  have hun : chgA c vA vM = #[.string ⟨c.time.toArray⟩, .string ⟨c.who.toArray⟩, .string ⟨c.dn.toArray⟩, .int .i64 c.kind, vA, vM, .string ⟨c.newRdn.toArray⟩, .string ⟨c.newSup.toArray⟩, .bool c.delOld, .bool c.hasSup] := rfl
  rw [hun] at k0 b0 hszb ⊢
  have HUN := Lib.hid hun
  have HKB := Lib.hid hkb
  clear hun hkb
  go_enter Tryd.func10, Tryd.ntmps10
  go_wp2_with (go_at_call 20; refine Calls.mono (show Calls _ _ _ _ _ from k0) ?_; rintro e w1 ⟨rfl, hb1⟩; have hc1 := (hb1.block w.heap.size hszb).trans HKB.out; have hlt1 : w.heap.size < w1.heap.size := Nat.lt_of_lt_of_le hszb hb1.size; have hb01 := b0.trans (hb1.mono (Nat.le_of_lt hszb)); clear k0 HKB; have hc2 := (Lib.alloc_old w1 (.cells #[.pointer none, .slice none 0 0] 62) w.heap.size hlt1).trans hc1; obtain ⟨⟨q0, q1, q2, q3⟩, q4⟩ := chg_cells hc2; clear q4)
  have hS1 := HS.out.1
  obtain ⟨t1, t2, t3, _, _⟩ := hS1
  have hrl := HRL.out
  have hhd := HHD.out
  have hw0 : w.heap.size ≤ w1.heap.size := Nat.le_of_lt hlt1
  refine Calls.mono (line_any w1.heap.size w1.heap.size [] [116, 105, 109, 101] c.time _ (IsW_new w1) (by simp) (by simp) (by omega) (by simp)) ?_
  rintro e w2 ⟨rfl, hw2, hb2, _⟩
  clear q0 q1 q2 q3
  have hc3 := (hb2.block w.heap.size hlt1).trans hc2
  obtain ⟨⟨q0, q1, q2, q3⟩, q4⟩ := chg_cells hc3
  clear q4
  have z2 : w1.heap.size ≤ w2.heap.size := Nat.le_trans (by simp) hb2.size
  obtain ⟨a1, ha1⟩ : ∃ l, lineB [116, 105, 109, 101] c.time = l := ⟨_, rfl⟩
  rw [ha1, List.nil_append] at hw2
  rw [ha1] at hhd
  obtain ⟨a2, ha2⟩ : ∃ l, lineB [119, 104, 111] c.who = l := ⟨_, rfl⟩
  rw [ha2] at hhd
  obtain ⟨a3, ha3⟩ : ∃ l, lineB [100, 110] c.dn = l := ⟨_, rfl⟩
  rw [ha3] at hhd
  obtain ⟨a4, ha4⟩ : ∃ l, lineB [99, 104, 97, 110, 103, 101, 116, 121, 112, 101] (kindW c.kind) = l := ⟨_, rfl⟩
  rw [ha4] at hhd
  have htx : T = a1 ++ a2 ++ a3 ++ a4 ++ restC c ++ [10] := by rw [← HTX.out, ← ha1, ← ha2, ← ha3, ← ha4]; rfl
  have HTT := Lib.hid htx
  have HA1 := Lib.hid ha1
  have HA2 := Lib.hid ha2
  have HA3 := Lib.hid ha3
  have HA4 := Lib.hid ha4
  have x1 : a1.length ≤ 1000000000 := by omega
  have x2 : (a1 ++ a2).length ≤ 1000000000 := by rw [List.length_append]; omega
  have x3 : (a1 ++ a2 ++ a3).length ≤ 1000000000 := by rw [List.length_append, List.length_append]; omega
  have x4 : (a1 ++ a2 ++ a3 ++ a4).length + (restC c).length ≤ 1000000000 := by rw [List.length_append, List.length_append, List.length_append]; omega
  have x5 : (a1 ++ a2 ++ a3 ++ a4 ++ restC c).length ≤ 1000000000 := by rw [List.length_append]; exact x4
  clear htx ha1 ha2 ha3 ha4 hrl hhd HRL HHD
  go_wp2_with fail
  refine Calls.mono (line_any w1.heap.size w1.heap.size a1 [119, 104, 111] c.who w2 hw2 (by omega) (by simp) (by omega) z2) ?_
  rintro e w3 ⟨rfl, hw3, hb3, _⟩
  clear q0 q1 q2 q3
  have hc4 := (hb3.block w.heap.size hlt1).trans hc3
  obtain ⟨⟨q0, q1, q2, q3⟩, q4⟩ := chg_cells hc4
  clear q4
  have z3 : w1.heap.size ≤ w3.heap.size := Nat.le_trans z2 hb3.size
  rw [HA2.out] at hw3
  go_wp2_with fail
  refine Calls.mono (line_any w1.heap.size w1.heap.size (a1 ++ a2) [100, 110] c.dn w3 hw3 (by omega) (by simp) (by omega) z3) ?_
  rintro e w4 ⟨rfl, hw4, hb4, _⟩
  clear q0 q1 q2 q3
  have hc5 := (hb4.block w.heap.size hlt1).trans hc4
  obtain ⟨⟨q0, q1, q2, q3⟩, q4⟩ := chg_cells hc5
  clear q4
  have z4 : w1.heap.size ≤ w4.heap.size := Nat.le_trans z3 hb4.size
  rw [HA3.out] at hw4
  have kk := fun w' => kindWord_any c.kind w' hkind
  have hkl : (kindW c.kind).length ≤ 10 := by unfold kindW; split <;> (try split) <;> (try split) <;> simp
  obtain ⟨KW, hKW⟩ : ∃ K, kindW c.kind = K := ⟨_, rfl⟩
  rw [hKW] at kk hkl
  have HKW := Lib.hid hKW
  clear hKW
  go_wp2_with (go_at_call 22; refine (kk _).mono ?_; rintro e w' ⟨rfl, rfl⟩)
  refine Calls.mono (line_any w1.heap.size w1.heap.size (a1 ++ a2 ++ a3) [99, 104, 97, 110, 103, 101, 116, 121, 112, 101] KW w4 hw4 (by omega) (by simp) (by omega) z4) ?_
  rintro e w5 ⟨rfl, hw5, hb5, _⟩
  clear q0 q1 q2 q3
  have hc6 := (hb5.block w.heap.size hlt1).trans hc5
  have z5 : w1.heap.size ≤ w5.heap.size := Nat.le_trans z4 hb5.size
  have ha4' : lineB [99, 104, 97, 110, 103, 101, 116, 121, 112, 101] KW = a4 := by rw [← HA4.out, HKW.out]
  rw [ha4'] at hw5
  obtain ⟨⟨q0, q1, q2, q3⟩, q4, q5, q6, q7, q8, q9⟩ := chg_cells hc6
  clear ha4'
  have hb05 : Below w.heap.size w w5 := ((((hb01.alloc hw0 _).trans (hb2.mono hw0)).trans (hb3.mono hw0)).trans (hb4.mono hw0)).trans (hb5.mono hw0)
  have kr := rest_any w1.heap.size w1.heap.size (a1 ++ a2 ++ a3 ++ a4) w w5 c vA vM hw5 hb05 hw0 z5 HA.out HMo.out HS.out x4 hkind HM.out
  rw [HUN.out] at kr
  go_wp2_with (go_at_call 23; refine Calls.mono (show Calls _ _ _ _ _ from kr) ?_; rintro e w6 ⟨rfl, hw6, hb6⟩; have z6 := Nat.le_trans z5 hb6.size)
  refine Calls.mono (W_WriteByte w1.heap.size w1.heap.size (a1 ++ a2 ++ a3 ++ a4 ++ restC c) 10 w6 hw6 (by omega) z6) ?_
  rintro e w7 ⟨rfl, hw7, hb7, _⟩
  rw [← HTT.out] at hw7
  have han : T ≠ [] := by rw [HTT.out]; simp
  have hb07 : Below w.heap.size w w7 := (hb05.trans (hb6.mono hw0)).trans (hb7.mono hw0)
  clear q0 q1 q2 q3 q4 q5 q6 q7 q8 q9
  by_cases hTl : 65536 < T.length
  · have g1 : decide ((65536 : Int) < (T.length : Int)) = true := decide_eq_true (by omega)
    go_wp2_with (go_at_call 25; refine (W_Len _ _ T w7 hw7).mono ?_; rintro e w' ⟨rfl, rfl⟩)
    go_ret2
    have h := HPR.out
    rw [HTX.out, if_pos hTl] at h
    have e1 : [] = PS := by rw [← HPS.out, h]
    have e2 : 2 = PE := by rw [← HPE.out, h]
    subst e1 e2
    exact ⟨rfl, hb07⟩
  · have g1 : decide ((65536 : Int) < (T.length : Int)) = false := decide_eq_false (by omega)
    go_wp2_with (first | (go_at_call 25; refine (W_Len _ _ T w7 hw7).mono ?_; rintro e w' ⟨rfl, rfl⟩) | (go_at_call 26; refine (W_String _ _ T w7 hw7 han).mono ?_; rintro e w8 ⟨rfl, hb8⟩))
    go_ret2
    have h := HPR.out
    rw [HTX.out, if_neg hTl] at h
    have e1 : T = PS := by rw [← HPS.out, h]
    have e2 : 0 = PE := by rw [← HPE.out, h]
    subst e1 e2
    exact ⟨rfl, hb07.trans (hb8.mono hw0)⟩
theorem Print_any (c : Chg) (vA vM : Value) (w : World) (hA : AttrsAt w vA c.attrs) (hM : ModsAt w vM c.mods) (hE : Env w) (hS : Small c) :
    Calls Tryd.prog 10 #[.agg (chgA c vA vM)] w fun e w' => e = .returned (.tuple #[.string ⟨(printC c).1.toArray⟩, .int .i64 (printC c).2]) ∧ Below w.heap.size w w' := by
  cases hr : rightC c with
  | true => exact Print_yes c vA vM w hA hM hE hS hr
  | false =>
    have e : printC c = ([], 110) := by simp [printC, hr]
    rw [e]
    exact Print_no c vA vM w hA hM hE hS hr
end Go.Proofs.YtehpdodjncabkaaDoor
