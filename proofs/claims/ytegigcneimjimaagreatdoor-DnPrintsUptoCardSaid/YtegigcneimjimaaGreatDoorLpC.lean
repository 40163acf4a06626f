/- chancerylaw4: the law DnPrints. -/
import Derived.Test.YtegigcneimjimaaGreatDoorLpB
import Derived.Test.YtegigcneimjimaaGreatDoorBdO
import Derived.Test.YtegigcneimjimaaGreatDoorRtD
import Derived.Test.YtegigcneimjimaaGreatDoorDnAl
namespace Go.Proofs.YtegigcneimjimaaGreatDoor
open Go.RowKit Go.Lib

theorem dn_one {w : World} {a : Option Addr} {c : Nat} {r : List Av} (h : AvsAt w (.slice a r.length c) r) : DnAt (w.alloc (.cells #[.slice a r.length c] 66)) (.slice (some ⟨w.heap.size, 0, none⟩) 1 1) [r] :=
  dnAt_own (own_new1 w w.heap.size (Nat.le_refl _) (.slice a r.length c)) rfl (fun j x hj => by
    cases j with
    | zero => simp at hj; subst hj; exact ⟨_, rfl, h.below ((Below.refl _ _).alloc (Nat.le_refl _) _)⟩
    | succ j => simp at hj)
/-- A name reads as it did, all its blocks lying below B. -/
theorem LentD.belowB {W : Nat} {w0 w w' : World} {v : Value} {d : List (List Av)} (h : LentD W w0 v d) (h1 : Below w0.heap.size w0 w') : LentD W w' v d := h.below h1
/-- append(Dn{r}, d...), guarded or not. -/
theorem wpList_append_dn {w0 w : World} {ops : Array Oper} {rest : List Oper} {o : Oper} {a : Act} {Q : Exit → Act → World → Prop} (hw : Region.wanted o (yielded ops a.tmps) = true) (s x : Operand)
    (ho : o.op = .call { callee := .builtin .append, args := #[s, x], argTypes := #[60, 60] })
    (u v v0 : Value) (r : List Av) (d : List (List Av)) (hs : a.eval s = v0) (hx : a.eval x = v) (hown : w.ownsRow w0.heap.size 66 1 v0 1 [u]) (hbA : Below w0.heap.size w0 w) (hu : AvsAt w0 u r) (h : DnAt w0 v d) (hl : d.length ≤ 1000000)
    (K : ∀ v' w7, DnAt w7 v' (r :: d) → Below w0.heap.size w0 w7 → wpList Tryz.prog ops Q rest (a.put o.dst v') w7) : wpList Tryz.prog ops Q (o :: rest) a w := by
  obtain ⟨i0, hi0, hz0, hz1, hz2⟩ := info_parts Tryz.infoRdn
  obtain ⟨ad, cap, us, rfl, hus, huc, hnone, hcells, hone, hall⟩ := dn_vals h
  have fin : ∀ (v' : Value) (w7 : World), w7.ownsRow w0.heap.size 66 1 v' (1 + us.length) ([u] ++ us) → Below w0.heap.size w0 w7 → DnAt w7 v' (r :: d) := by
    intro v' w7 ho hb
    refine dnAt_own ho (by rw [hus, List.length_cons]; omega) (fun j x hj => ?_)
    cases j with
    | zero => simp at hj; subst hj; exact ⟨_, rfl, hu.below hb⟩
    | succ j =>
      obtain ⟨y, h1, h2⟩ := hall j x (by simpa using hj)
      exact ⟨y, by simpa using h1, h2.below hb⟩
  obtain ⟨v', w7, hrun, hd7, hb7⟩ : ∃ v' w7, (Builtin.append_ #[60, 60] o.type #[v0, .slice ad us.length cap]).run Tryz.prog w = .ok v' w7 ∧ DnAt w7 v' (r :: d) ∧ Below w0.heap.size w0 w7 := by
    cases ad with
    | none =>
      obtain rfl := hnone rfl
      refine ⟨v0, w, ?_, fin _ _ hown hbA, hbA⟩
      have ht := Tryz.underlying60
      rcases hown.2 with ⟨rfl, hz⟩ | ⟨g, cap, cur, rfl, _, _, hnc, _⟩
      · cases hz
      · simp [Builtin.append_, run_underlying ht, sizeOf, typeInfo, hi0, Builtin.lenOf, Builtin.firstCells, hnc, storeCells]
    | some ad =>
      obtain ⟨v', w7, hrun, ho7, hg7, _⟩ := run_append_own (P := Tryz.prog) (w := w) w0.heap.size 60 o.type 66 i0 (.slice none 0 0) 1 24 Tryz.underlying60 hi0 hz0 hz1 hz2 rfl (by decide) v0 1 [u] hown ad us.length cap us (by simp) (fun j y hj => by
        have h1 := hcells ad rfl j y hj
        exact (hbA.cell (lt_of_cell h1)).trans h1) hone (by unfold maxLen; omega) (by omega) hbA.size
      have hb7 : Below w0.heap.size w0 w7 := by
        refine hbA.grown hg7 ?_ (fun b hb => (hown.lt b hb).1)
        have := hbA.size
        omega
      exact ⟨v', w7, hrun, fin _ _ ho7 hb7, hb7⟩
  refine wpList_step fun K' hK => ?_
  rw [if_pos hw]
  unfold Oper.wp execOp
  simp only [ho, resolve, invoke, builtin, Sem.run_bind, Sem.run_pure, Result.andThen_ok, List.map_toArray, List.map_cons, List.map_nil, hs, hx, hrun]
  exact hK _ _ (K _ _ hd7 hb7)
theorem built_book : Tryz.prog.built 43 [] = some (bkRow (.slice none 0 0) (.slice none 0 0) (.slice none 0 0) (.slice none 0 0)) := by kernel_rfl
theorem wpList_build_book {ops : Array Oper} {rest : List Oper} {o : Oper} {a : Act} {w : World} {Q : Exit → Act → World → Prop} (hg : o.guard = none) (ho : o.op = .build 43 #[])
    (h : wpList Tryz.prog ops Q rest (a.put o.dst (.agg (bkRow (.slice none 0 0) (.slice none 0 0) (.slice none 0 0) (.slice none 0 0)))) w) : wpList Tryz.prog ops Q (o :: rest) a w :=
  wpList_build hg _ _ ho (by rw [show (Array.map _ #[] : Array (Nat × Value)).toList = [] from by simp, built_book]; rfl) (by rw [show (Array.map _ #[] : Array (Nat × Value)).toList = [] from by simp, built_book]; exact h)
set_option maxRecDepth 100000 in
set_option maxHeartbeats 8000000 in
theorem DnPrints_any (v u : Value) (d : List (List Av)) (r : List Av) (w : World) (h : DnAt w v d) (hu : AvsAt w u r) (hb : ∀ x ∈ r :: d, x.length ≤ 500000) (hok : ∀ x ∈ r :: d, ∀ a ∈ x, a.1.length ≤ 140737488355328) (hd : d.length ≤ 2000000) (hE : Env w) :
    Calls Tryz.prog 5 #[v, u] w fun e w' => e = .returned (.bool true) ∧ Below w.heap.size w w' := by
  have H := Lib.hid h
  have HU := Lib.hid hu
  have HB := Lib.hid hb
  have HK := Lib.hid hok
  have hrl : r.length ≤ 500000 := hb r (List.mem_cons_self ..)
  obtain ⟨av, cv, hve, hcv, hxv⟩ := id h
  obtain ⟨au, cu, hue, hcu, hxu⟩ := id hu
  subst hve hue
  clear hxv hxu hb hok h hu
  by_cases hbig : 200 < d.length ∨ 200 < r.length
  · have k := alive_any w hE
    have q0 : decide ((200 : Int) < (d.length : Int)) = true ∨ decide ((200 : Int) < (d.length : Int)) = false ∧ decide ((200 : Int) < (r.length : Int)) = true := by simp; omega
    rcases q0 with q0 | ⟨q0, q1⟩
    all_goals
      go_enter Tryz.func5, Tryz.ntmps5
      go_wp2_with (go_at_call 15; refine k.mono ?_; rintro e w1 ⟨rfl, hb1⟩)
      go_ret
      exact ⟨rfl, hb1⟩
  · have q0 : decide ((200 : Int) < (d.length : Int)) = false := decide_eq_false (by omega)
    have q1 : decide ((200 : Int) < (r.length : Int)) = false := decide_eq_false (by omega)
    have hdl : d.length ≤ 200 := by omega
    have hrl2 : r.length ≤ 200 := by omega
    have HD := Lib.hid (show ∀ x ∈ d, x.length ≤ 500000 from fun x hx => HB.out x (List.mem_cons_of_mem _ hx))
    have HDK := Lib.hid (show ∀ x ∈ d, ∀ a ∈ x, a.1.length ≤ 140737488355328 from fun x hx => HK.out x (List.mem_cons_of_mem _ hx))
    have k1 := lent_any _ d w H.out (by omega) (fun x hx => by have := HD.out x hx; omega)
    go_enter Tryz.func5, Tryz.ntmps5
    go_wp2_with fail
    refine Calls.mono (show Calls _ _ _ _ _ from k1) ?_
    rintro e w1 ⟨⟨x1, rfl, hx1⟩, hb1⟩
    have HX := Lib.hid hx1
    obtain ⟨gx, cx, _, gmx, hxe, _, _, _⟩ := hx1
    subst hxe
    have k2 := Print_any _ d w1 HX.out.at (hE.below hb1) HDK.out (by omega) (fun x hx => by have := HD.out x hx; omega)
    clear k1
    go_wp2_with fail
    refine Calls.mono (show Calls _ _ _ _ _ from k2) ?_
    rintro e w2 ⟨rfl, hb2⟩
    have hw2 := below_ext hb1 hb2
    have k3 := DPrint_any _ d w2 (H.out.below hw2) HDK.out (by omega) (fun x hx => by have := HD.out x hx; omega)
    obtain ⟨PS, PN, hPP⟩ : ∃ a b, printB d = (a, b) := ⟨_, _, rfl⟩
    rw [hPP] at k3 ⊢
    simp only at k3 ⊢
    clear k2 hPP
    go_wp2_with fail
    refine Calls.mono (show Calls _ _ _ _ _ from k3) ?_
    rintro e w3 ⟨rfl, hb3⟩
    have hw3 := below_ext hw2 hb3
    have k4 := PrintRdn_any _ r w3 (HU.out.below hw3) (hE.below hw3) (HK.out r (List.mem_cons_self ..)) (by omega)
    obtain ⟨QS, QN, hQQ⟩ : ∃ a b, printB [r] = (a, b) := ⟨_, _, rfl⟩
    rw [hQQ] at k4
    simp only at k4
    clear k3
    go_wp2_with fail
    refine Calls.mono (show Calls _ _ _ _ _ from k4) ?_
    rintro e w4 ⟨rfl, hb4⟩
    have hw4 := below_ext hw3 hb4
    have hd5 := dn_one (HU.out.below hw4)
    have k5 := DPrint_any _ [r] _ hd5 (fun x hx a ha => by simp at hx; subst hx; exact HK.out x (List.mem_cons_self ..) a ha) (by simp) (fun x hx => by simp at hx; subst hx; omega)
    rw [hQQ] at k5
    simp only at k5
    clear k4 hd5 hQQ
    go_wp2_with fail
    refine Calls.mono (show Calls _ _ _ _ _ from k5) ?_
    rintro e w5 ⟨rfl, hb5⟩
    have hw5 := below_ext hw4 (below_ext ((Below.refl _ _).alloc (Nat.le_refl _) _) hb5)
    have hx5 := HX.out.below (show Below w1.heap.size w1 w5 from below_ext (below_ext (below_ext hb2 hb3) hb4) (below_ext ((Below.refl _ _).alloc (Nat.le_refl _) _) hb5))
    have k6 := Parent_own _ d w5 hx5.at (by omega) (fun x hx => by have := HD.out x hx; omega)
    clear k5
    go_wp2_with fail
    refine Calls.mono (show Calls _ _ _ _ _ from k6) ?_
    rintro e w6 ⟨⟨pv, rfl, hpv⟩, hb6⟩
    have hw6 := below_ext hw5 hb6
    have hx6 := hx5.below hb6
    have k7 := DJoin_own _ _ r d w6 (HU.out.below hw6) hx6.at (by omega) (fun x hx => by have := HB.out x hx; omega)
    clear k6
    go_wp2_with fail
    refine Calls.mono (show Calls _ _ _ _ _ from k7) ?_
    rintro e w7 ⟨⟨jv, rfl, hjv⟩, hb7⟩
    have hw7 := below_ext hw6 hb7
    have hx7 := hx6.below hb7
    clear k7
    have HJ := Lib.hid hjv
    have HP := Lib.hid hpv
    have HE := Lib.hid hE
    have HX7 := Lib.hid hx7
    have HX5 := Lib.hid hx5
    have HU5 := Lib.hid (HU.out.below hw5)
    have h56 := hb6.size
    have h67 := hb7.size
    have HH6 := Lib.hid (HP.out.at.below hb7)
    have HH7 := Lib.hid (H.out.below hw7)
    have HU7 := Lib.hid (HU.out.below hw7)
    have hl0 : d.length ≤ 140737488355328 := by omega
    have HD2 := Lib.hid (show ∀ x ∈ d, x.length ≤ 140737488355328 from fun x hx => by have := HD.out x hx; omega)
    have HB2 := Lib.hid (show ∀ x ∈ r :: d, x.length ≤ 140737488355328 from fun x hx => by have := HB.out x hx; omega)
    clear hjv hpv hE hx7 hx6 hx5
    by_cases h0 : d = []
    · subst h0
      go_wp2_with (at_builtin; refine wpList_append_dn rfl (.tmp 98) (.tmp 99) rfl _ _ _ r [] rfl rfl (own_new1 w7 _ (Nat.le_refl _) (.slice au r.length cu)) ((Below.refl _ w7).alloc (Nat.le_refl _) _) HU7.out HH7.out (by simp) ?_)
      intro v8 w8 hv8 hb8
      have hb78 := hb8
      have k10 := Same_any jv v8 [r] [r] w8 (HJ.out.at.below hb78) hv8 (by simp only [List.length_cons, List.length_nil, List.tail_nil]; omega) (by simp only [List.length_cons, List.length_nil, List.tail_nil]; omega) HB2.out HB2.out
      simp only [decide_true] at k10
      clear hv8
      go_wp2_with fail
      refine Calls.mono (show Calls _ _ _ _ _ from k10) ?_
      rintro e w10 ⟨rfl, hb10⟩
      clear k10
      have k11 := stays_any w.heap.size _ _ ([]) w10 (HX7.out.below (below_ext hb78 hb10)) (HH7.out.below (below_ext hb78 hb10)) (by simp only [List.length_cons, List.length_nil, List.tail_nil]; omega) HD2.out
      go_wp2_with fail
      refine Calls.mono (show Calls _ _ _ _ _ from k11) ?_
      rintro e w11 ⟨rfl, hb11⟩
      have b711 := below_ext (below_ext hb78 hb10) hb11
      clear k11 hb78 hb10 hb11
      have h711 := b711.size
      have b7a := b711.alloc h711 (.cells (bkRow (.slice none 0 0) (.slice none 0 0) (.slice none 0 0) (.slice none 0 0)) 43)
      have b6a := below_ext hb7 b7a
      have b5a := below_ext hb6 b6a
      have hI := BkI.new (B := w5.heap.size) w11 (by omega)
      have ha := b7a.size
      have k12 := Dn_bk w5.heap.size w11.heap.size w5.heap.size w6.heap.size (fun _ => False) pv ([]).tail _ hI (HP.out.h.kd (Kd.of_below (B := w5.heap.size) b6a)) (Nat.le_refl _) (fun k h => h.elim) h56 (by simp only [List.length_cons, List.length_nil, List.tail_nil]; omega) (fun x hx => HD.out x (List.mem_of_mem_tail hx)) (by omega)
      clear hI
      go_wp2_with (refine wpList_build_book rfl rfl ?_)
      refine Calls.mono (show Calls _ _ _ _ _ from k12) ?_
      rintro e w12 ⟨rfl, hI12, hk12⟩
      clear k12
      have h12 := hk12.size
      have k13 := Dn_bk w5.heap.size w11.heap.size w6.heap.size w7.heap.size (fun k => k < w6.heap.size) jv [r] w12 hI12 ((HJ.out.h.kd (Kd.of_below (B := w5.heap.size) b7a)).kd hk12) h56 (fun k h => h) h67 (by simp only [List.length_cons, List.length_nil, List.tail_nil]; omega) HB.out (by omega)
      clear hI12
      go_wp2_with fail
      refine Calls.mono (show Calls _ _ _ _ _ from k13) ?_
      rintro e w13 ⟨rfl, hI13, hk13⟩
      clear k13
      have h13 := hk13.size
      have c13 := ((Kd.of_below (B := w5.heap.size) b5a).trans hk12).trans hk13
      have e13 := c13.below (Nat.le_refl _)
      have k14 := Parent_own _ ([]) w13 (HX5.out.below e13).at (by simp only [List.length_cons, List.length_nil, List.tail_nil]; omega) (fun x hx => by have := HD.out x hx; omega)
      go_wp2_with fail
      refine Calls.mono (show Calls _ _ _ _ _ from k14) ?_
      rintro e w14 ⟨⟨qv, rfl, hqv⟩, hb14⟩
      clear k14
      have h14 := hb14.size
      have k15 := Dn_bk w5.heap.size w11.heap.size w13.heap.size w14.heap.size (fun k => k < w7.heap.size) qv ([]).tail w14 (hI13.below hb14) hqv.h (by omega) (fun k h => by omega) h14 (by simp only [List.length_cons, List.length_nil, List.tail_nil]; omega) (fun x hx => HD.out x (List.mem_of_mem_tail hx)) (by omega)
      clear hI13 hqv
      go_wp2_with fail
      refine Calls.mono (show Calls _ _ _ _ _ from k15) ?_
      rintro e w15 ⟨rfl, hI15, hk15⟩
      clear k15
      have h15 := hk15.size
      have c15 := (c13.trans (Kd.of_below hb14)).trans hk15
      have e15 := c15.below (Nat.le_refl _)
      have k16 := DJoin_own _ _ r ([]) w15 (HU5.out.below e15) (HX5.out.below e15).at (by simp only [List.length_cons, List.length_nil, List.tail_nil]; omega) (fun x hx => by have := HB.out x hx; omega)
      go_wp2_with fail
      refine Calls.mono (show Calls _ _ _ _ _ from k16) ?_
      rintro e w16 ⟨⟨zv, rfl, hzv⟩, hb16⟩
      clear k16
      have h16 := hb16.size
      have k17 := Dn_bk w5.heap.size w11.heap.size w15.heap.size w16.heap.size (fun k => k < w14.heap.size) zv [r] w16 (hI15.below hb16) hzv.h (by omega) (fun k h => by omega) h16 (by simp only [List.length_cons, List.length_nil, List.tail_nil]; omega) HB.out (by omega)
      clear hI15 hzv
      go_wp2_with fail
      refine Calls.mono (show Calls _ _ _ _ _ from k17) ?_
      rintro e w17 ⟨rfl, hI17, hk17⟩
      clear k17
      have h17 := hk17.size
      have c17 := (c15.trans (Kd.of_below hb16)).trans hk17
      have e17 := c17.below (Nat.le_refl _)
      have h5 := hw5.size
      have f17 : Below w.heap.size w w17 := hw5.trans (e17.mono h5)
      have k18 := alive_any w17 (HE.out.below f17)
      go_wp2_with fail
      refine Calls.mono (show Calls _ _ _ _ _ from k18) ?_
      rintro e w18 ⟨rfl, hb18⟩
      clear k18
      have h18 := hb18.size
      have k19 := Apart_any w5.heap.size w11.heap.size _ w18 (hI17.below hb18) (by omega)
      clear hI17
      go_wp2_with fail
      refine Calls.mono (show Calls _ _ _ _ _ from k19) ?_
      rintro e w19 ⟨rfl, hb19⟩
      clear k19
      have e19 : Below w5.heap.size w5 w19 := (e17.trans (hb18.mono (by omega))).trans hb19
      have f19 : Below w.heap.size w w19 := hw5.trans (e19.mono h5)
      have k20 := stays_any w.heap.size _ _ ([]) w19 (HX5.out.below e19) (H.out.below f19) (by simp only [List.length_cons, List.length_nil, List.tail_nil]; omega) HD2.out
      go_wp2_with fail
      refine Calls.mono (show Calls _ _ _ _ _ from k20) ?_
      rintro e w20 ⟨rfl, hb20⟩
      clear k20
      go_wp2_with fail
      go_ret
      exact ⟨rfl, below_ext f19 hb20⟩
    · obtain ⟨y, dt, rfl⟩ : ∃ y dt, d = y :: dt := ⟨d.head h0, d.tail, (List.cons_head_tail h0).symm⟩
      have ht := HH7.out
      obtain ⟨_, _, he, _, hx⟩ := id ht
      obtain ⟨g, o, ha, _⟩ := hx (by simp)
      subst ha
      cases he
      clear hx
      have ht := dn_tail ht
      by_cases hc : cv = 1
      · subst hc
        obtain rfl : dt = [] := List.eq_nil_of_length_eq_zero (by simp only [List.length_cons] at hcv; omega)
        have k8 := Same_any pv (.slice (some ⟨g, o, none⟩) 0 0) [] [] w7 HH6.out ⟨_, 0, rfl, Nat.le_refl _, fun h => absurd rfl h⟩ (by simp) (by simp) (by simp) (by simp)
        simp only [decide_true] at k8
        clear ht
        go_wp2_with fail
        refine Calls.mono (show Calls _ _ _ _ _ from k8) ?_
        rintro e w9 ⟨rfl, hb9⟩
        go_wp2_with (at_builtin; refine wpList_append_dn rfl (.tmp 98) (.tmp 99) rfl _ _ _ r [y] rfl rfl (own_new1 w9 _ (Nat.le_refl _) (.slice au r.length cu)) ((Below.refl _ w9).alloc (Nat.le_refl _) _) (HU7.out.below hb9) (HH7.out.below hb9) (by simp) ?_)
        intro v8 w8 hv8 hb8
        have hb78 := below_ext hb9 hb8
        have k10 := Same_any jv v8 (r :: [y]) (r :: [y]) w8 (HJ.out.at.below hb78) hv8 (by simp only [List.length_cons, List.length_nil, List.tail_cons] at hdl ⊢; omega) (by simp only [List.length_cons, List.length_nil, List.tail_cons] at hdl ⊢; omega) HB2.out HB2.out
        simp only [decide_true] at k10
        clear hv8
        go_wp2_with fail
        refine Calls.mono (show Calls _ _ _ _ _ from k10) ?_
        rintro e w10 ⟨rfl, hb10⟩
        clear k10
        have k11 := stays_any w.heap.size _ _ ([y]) w10 (HX7.out.below (below_ext hb78 hb10)) (HH7.out.below (below_ext hb78 hb10)) (by simp only [List.length_cons, List.length_nil, List.tail_cons] at hdl ⊢; omega) HD2.out
        go_wp2_with fail
        refine Calls.mono (show Calls _ _ _ _ _ from k11) ?_
        rintro e w11 ⟨rfl, hb11⟩
        have b711 := below_ext (below_ext hb78 hb10) hb11
        clear k11 hb78 hb10 hb11
        have h711 := b711.size
        have b7a := b711.alloc h711 (.cells (bkRow (.slice none 0 0) (.slice none 0 0) (.slice none 0 0) (.slice none 0 0)) 43)
        have b6a := below_ext hb7 b7a
        have b5a := below_ext hb6 b6a
        have hI := BkI.new (B := w5.heap.size) w11 (by omega)
        have ha := b7a.size
        have k12 := Dn_bk w5.heap.size w11.heap.size w5.heap.size w6.heap.size (fun _ => False) pv ([y]).tail _ hI (HP.out.h.kd (Kd.of_below (B := w5.heap.size) b6a)) (Nat.le_refl _) (fun k h => h.elim) h56 (by simp only [List.length_cons, List.length_nil, List.tail_cons] at hdl ⊢; omega) (fun x hx => HD.out x (List.mem_of_mem_tail hx)) (by omega)
        clear hI
        go_wp2_with (refine wpList_build_book rfl rfl ?_)
        refine Calls.mono (show Calls _ _ _ _ _ from k12) ?_
        rintro e w12 ⟨rfl, hI12, hk12⟩
        clear k12
        have h12 := hk12.size
        have k13 := Dn_bk w5.heap.size w11.heap.size w6.heap.size w7.heap.size (fun k => k < w6.heap.size) jv (r :: [y]) w12 hI12 ((HJ.out.h.kd (Kd.of_below (B := w5.heap.size) b7a)).kd hk12) h56 (fun k h => h) h67 (by simp only [List.length_cons, List.length_nil, List.tail_cons] at hdl ⊢; omega) HB.out (by omega)
        clear hI12
        go_wp2_with fail
        refine Calls.mono (show Calls _ _ _ _ _ from k13) ?_
        rintro e w13 ⟨rfl, hI13, hk13⟩
        clear k13
        have h13 := hk13.size
        have c13 := ((Kd.of_below (B := w5.heap.size) b5a).trans hk12).trans hk13
        have e13 := c13.below (Nat.le_refl _)
        have k14 := Parent_own _ ([y]) w13 (HX5.out.below e13).at (by simp only [List.length_cons, List.length_nil, List.tail_cons] at hdl ⊢; omega) (fun x hx => by have := HD.out x hx; omega)
        go_wp2_with fail
        refine Calls.mono (show Calls _ _ _ _ _ from k14) ?_
        rintro e w14 ⟨⟨qv, rfl, hqv⟩, hb14⟩
        clear k14
        have h14 := hb14.size
        have k15 := Dn_bk w5.heap.size w11.heap.size w13.heap.size w14.heap.size (fun k => k < w7.heap.size) qv ([y]).tail w14 (hI13.below hb14) hqv.h (by omega) (fun k h => by omega) h14 (by simp only [List.length_cons, List.length_nil, List.tail_cons] at hdl ⊢; omega) (fun x hx => HD.out x (List.mem_of_mem_tail hx)) (by omega)
        clear hI13 hqv
        go_wp2_with fail
        refine Calls.mono (show Calls _ _ _ _ _ from k15) ?_
        rintro e w15 ⟨rfl, hI15, hk15⟩
        clear k15
        have h15 := hk15.size
        have c15 := (c13.trans (Kd.of_below hb14)).trans hk15
        have e15 := c15.below (Nat.le_refl _)
        have k16 := DJoin_own _ _ r ([y]) w15 (HU5.out.below e15) (HX5.out.below e15).at (by simp only [List.length_cons, List.length_nil, List.tail_cons] at hdl ⊢; omega) (fun x hx => by have := HB.out x hx; omega)
        go_wp2_with fail
        refine Calls.mono (show Calls _ _ _ _ _ from k16) ?_
        rintro e w16 ⟨⟨zv, rfl, hzv⟩, hb16⟩
        clear k16
        have h16 := hb16.size
        have k17 := Dn_bk w5.heap.size w11.heap.size w15.heap.size w16.heap.size (fun k => k < w14.heap.size) zv (r :: [y]) w16 (hI15.below hb16) hzv.h (by omega) (fun k h => by omega) h16 (by simp only [List.length_cons, List.length_nil, List.tail_cons] at hdl ⊢; omega) HB.out (by omega)
        clear hI15 hzv
        go_wp2_with fail
        refine Calls.mono (show Calls _ _ _ _ _ from k17) ?_
        rintro e w17 ⟨rfl, hI17, hk17⟩
        clear k17
        have h17 := hk17.size
        have c17 := (c15.trans (Kd.of_below hb16)).trans hk17
        have e17 := c17.below (Nat.le_refl _)
        have h5 := hw5.size
        have f17 : Below w.heap.size w w17 := hw5.trans (e17.mono h5)
        have k18 := alive_any w17 (HE.out.below f17)
        go_wp2_with fail
        refine Calls.mono (show Calls _ _ _ _ _ from k18) ?_
        rintro e w18 ⟨rfl, hb18⟩
        clear k18
        have h18 := hb18.size
        have k19 := Apart_any w5.heap.size w11.heap.size _ w18 (hI17.below hb18) (by omega)
        clear hI17
        go_wp2_with fail
        refine Calls.mono (show Calls _ _ _ _ _ from k19) ?_
        rintro e w19 ⟨rfl, hb19⟩
        clear k19
        have e19 : Below w5.heap.size w5 w19 := (e17.trans (hb18.mono (by omega))).trans hb19
        have f19 : Below w.heap.size w w19 := hw5.trans (e19.mono h5)
        have k20 := stays_any w.heap.size _ _ ([y]) w19 (HX5.out.below e19) (H.out.below f19) (by simp only [List.length_cons, List.length_nil, List.tail_cons] at hdl ⊢; omega) HD2.out
        go_wp2_with fail
        refine Calls.mono (show Calls _ _ _ _ _ from k20) ?_
        rintro e w20 ⟨rfl, hb20⟩
        clear k20
        go_wp2_with fail
        go_ret
        exact ⟨rfl, below_ext f19 hb20⟩
      · have k8 := Same_any pv _ dt dt w7 HH6.out ht (by simp at hl0; omega) (by simp at hl0; omega) (fun x hx => HD2.out x (List.mem_cons_of_mem _ hx)) (fun x hx => HD2.out x (List.mem_cons_of_mem _ hx))
        simp only [decide_true] at k8
        go_wp2_with fail
        refine Calls.mono (show Calls _ _ _ _ _ from k8) ?_
        rintro e w9 ⟨rfl, hb9⟩
        go_wp2_with (at_builtin; refine wpList_append_dn rfl (.tmp 98) (.tmp 99) rfl _ _ _ r (y :: dt) rfl rfl (own_new1 w9 _ (Nat.le_refl _) (.slice au r.length cu)) ((Below.refl _ w9).alloc (Nat.le_refl _) _) (HU7.out.below hb9) (HH7.out.below hb9) (by simp only [List.length_cons] at hdl ⊢; omega) ?_)
        intro v8 w8 hv8 hb8
        have hb78 := below_ext hb9 hb8
        have k10 := Same_any jv v8 (r :: y :: dt) (r :: y :: dt) w8 (HJ.out.at.below hb78) hv8 (by simp only [List.length_cons, List.tail_cons] at hdl ⊢; omega) (by simp only [List.length_cons, List.tail_cons] at hdl ⊢; omega) HB2.out HB2.out
        simp only [decide_true] at k10
        clear hv8
        go_wp2_with fail
        refine Calls.mono (show Calls _ _ _ _ _ from k10) ?_
        rintro e w10 ⟨rfl, hb10⟩
        clear k10
        have k11 := stays_any w.heap.size _ _ (y :: dt) w10 (HX7.out.below (below_ext hb78 hb10)) (HH7.out.below (below_ext hb78 hb10)) (by simp only [List.length_cons, List.tail_cons] at hdl ⊢; omega) HD2.out
        go_wp2_with fail
        refine Calls.mono (show Calls _ _ _ _ _ from k11) ?_
        rintro e w11 ⟨rfl, hb11⟩
        have b711 := below_ext (below_ext hb78 hb10) hb11
        clear k11 hb78 hb10 hb11
        have h711 := b711.size
        have b7a := b711.alloc h711 (.cells (bkRow (.slice none 0 0) (.slice none 0 0) (.slice none 0 0) (.slice none 0 0)) 43)
        have b6a := below_ext hb7 b7a
        have b5a := below_ext hb6 b6a
        have hI := BkI.new (B := w5.heap.size) w11 (by omega)
        have ha := b7a.size
        have k12 := Dn_bk w5.heap.size w11.heap.size w5.heap.size w6.heap.size (fun _ => False) pv (y :: dt).tail _ hI (HP.out.h.kd (Kd.of_below (B := w5.heap.size) b6a)) (Nat.le_refl _) (fun k h => h.elim) h56 (by simp only [List.length_cons, List.tail_cons] at hdl ⊢; omega) (fun x hx => HD.out x (List.mem_of_mem_tail hx)) (by omega)
        clear hI
        go_wp2_with (refine wpList_build_book rfl rfl ?_)
        refine Calls.mono (show Calls _ _ _ _ _ from k12) ?_
        rintro e w12 ⟨rfl, hI12, hk12⟩
        clear k12
        have h12 := hk12.size
        have k13 := Dn_bk w5.heap.size w11.heap.size w6.heap.size w7.heap.size (fun k => k < w6.heap.size) jv (r :: y :: dt) w12 hI12 ((HJ.out.h.kd (Kd.of_below (B := w5.heap.size) b7a)).kd hk12) h56 (fun k h => h) h67 (by simp only [List.length_cons, List.tail_cons] at hdl ⊢; omega) HB.out (by omega)
        clear hI12
        go_wp2_with fail
        refine Calls.mono (show Calls _ _ _ _ _ from k13) ?_
        rintro e w13 ⟨rfl, hI13, hk13⟩
        clear k13
        have h13 := hk13.size
        have c13 := ((Kd.of_below (B := w5.heap.size) b5a).trans hk12).trans hk13
        have e13 := c13.below (Nat.le_refl _)
        have k14 := Parent_own _ (y :: dt) w13 (HX5.out.below e13).at (by simp only [List.length_cons, List.tail_cons] at hdl ⊢; omega) (fun x hx => by have := HD.out x hx; omega)
        go_wp2_with fail
        refine Calls.mono (show Calls _ _ _ _ _ from k14) ?_
        rintro e w14 ⟨⟨qv, rfl, hqv⟩, hb14⟩
        clear k14
        have h14 := hb14.size
        have k15 := Dn_bk w5.heap.size w11.heap.size w13.heap.size w14.heap.size (fun k => k < w7.heap.size) qv (y :: dt).tail w14 (hI13.below hb14) hqv.h (by omega) (fun k h => by omega) h14 (by simp only [List.length_cons, List.tail_cons] at hdl ⊢; omega) (fun x hx => HD.out x (List.mem_of_mem_tail hx)) (by omega)
        clear hI13 hqv
        go_wp2_with fail
        refine Calls.mono (show Calls _ _ _ _ _ from k15) ?_
        rintro e w15 ⟨rfl, hI15, hk15⟩
        clear k15
        have h15 := hk15.size
        have c15 := (c13.trans (Kd.of_below hb14)).trans hk15
        have e15 := c15.below (Nat.le_refl _)
        have k16 := DJoin_own _ _ r (y :: dt) w15 (HU5.out.below e15) (HX5.out.below e15).at (by simp only [List.length_cons, List.tail_cons] at hdl ⊢; omega) (fun x hx => by have := HB.out x hx; omega)
        go_wp2_with fail
        refine Calls.mono (show Calls _ _ _ _ _ from k16) ?_
        rintro e w16 ⟨⟨zv, rfl, hzv⟩, hb16⟩
        clear k16
        have h16 := hb16.size
        have k17 := Dn_bk w5.heap.size w11.heap.size w15.heap.size w16.heap.size (fun k => k < w14.heap.size) zv (r :: y :: dt) w16 (hI15.below hb16) hzv.h (by omega) (fun k h => by omega) h16 (by simp only [List.length_cons, List.tail_cons] at hdl ⊢; omega) HB.out (by omega)
        clear hI15 hzv
        go_wp2_with fail
        refine Calls.mono (show Calls _ _ _ _ _ from k17) ?_
        rintro e w17 ⟨rfl, hI17, hk17⟩
        clear k17
        have h17 := hk17.size
        have c17 := (c15.trans (Kd.of_below hb16)).trans hk17
        have e17 := c17.below (Nat.le_refl _)
        have h5 := hw5.size
        have f17 : Below w.heap.size w w17 := hw5.trans (e17.mono h5)
        have k18 := alive_any w17 (HE.out.below f17)
        go_wp2_with fail
        refine Calls.mono (show Calls _ _ _ _ _ from k18) ?_
        rintro e w18 ⟨rfl, hb18⟩
        clear k18
        have h18 := hb18.size
        have k19 := Apart_any w5.heap.size w11.heap.size _ w18 (hI17.below hb18) (by omega)
        clear hI17
        go_wp2_with fail
        refine Calls.mono (show Calls _ _ _ _ _ from k19) ?_
        rintro e w19 ⟨rfl, hb19⟩
        clear k19
        have e19 : Below w5.heap.size w5 w19 := (e17.trans (hb18.mono (by omega))).trans hb19
        have f19 : Below w.heap.size w w19 := hw5.trans (e19.mono h5)
        have k20 := stays_any w.heap.size _ _ (y :: dt) w19 (HX5.out.below e19) (H.out.below f19) (by simp only [List.length_cons, List.tail_cons] at hdl ⊢; omega) HD2.out
        go_wp2_with fail
        refine Calls.mono (show Calls _ _ _ _ _ from k20) ?_
        rintro e w20 ⟨rfl, hb20⟩
        clear k20
        go_wp2_with fail
        go_ret
        exact ⟨rfl, below_ext f19 hb20⟩
end Go.Proofs.YtegigcneimjimaaGreatDoor
