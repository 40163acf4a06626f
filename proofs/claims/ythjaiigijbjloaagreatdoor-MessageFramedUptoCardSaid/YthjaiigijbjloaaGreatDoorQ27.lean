/- ElJ. -/
import Derived.Deep.CutRange
import Derived.Test.YthjaiigijbjloaaGreatDoorQ26
namespace Go.Proofs.YthjaiigijbjloaaGreatDoor
open Go.RowKit Go.Lib
def FiP (w0 w : World) (el : El) (r : List Fl) (e : Ending) (w' : World) : Prop :=
 (∃ u v', e = .returned (.tuple #[.agg (elA el u), v']) ∧ KidsAt (fun g => w.heap.size ≤ g) w' u el.kids ∧ FlsM w0 v' r) ∧ Below w.heap.size w w'
set_option maxRecDepth 100000 in
set_option maxHeartbeats 4000000 in
theorem filtered_7 (p : Fl) (f : List Fl) (v : Value) (w0 w : World) (h0 : Below w0.heap.size w0 w) (hv : FlsM w0 v (p :: f)) (hok : FlOk (p :: f)) (hln : f.length ≤ 100) (hop : p.op = 7) :
  Calls Tryz.prog 119 #[v] w (FiP w0 w (leafE p) f) := by
 unfold FiP
 have HOP := hid hop
 clear hop
 obtain ⟨EX, hEX⟩ : ∃ e : El, (leafE p : El) = e := ⟨_, rfl⟩
 rw [hEX]
 have HEX := hid hEX
 clear hEX
 obtain ⟨PR, hPR⟩ : ∃ PR : Ending → World → Prop, PR = fun e w' => (∃ u v', e = .returned (.tuple #[.agg (elA EX u), v']) ∧ KidsAt (fun g => w.heap.size ≤ g) w' u EX.kids ∧ FlsM w0 v' f) ∧ Below w.heap.size w w' := ⟨_, rfl⟩
 rw [← hPR]
 have HPR := hid hPR
 clear hPR
 have hpo := (hok.2 p (by simp)).1
 have HPO := hid hpo
 have HOK := hid hok.tail
 have hdr := hv.drop
 obtain ⟨g, o, cap, rfl, hcap, c0, c1, c2, c3, c4, c5, u0, c6, hu⟩ := hv.first
 obtain ⟨au, cu, hus, hcu, -⟩ := id hu
 subst hus
 have HU := hid (hu.below h0)
 obtain ⟨NF, hNF⟩ : ∃ n, f.length = n := ⟨_, rfl⟩
 rw [hNF] at hcap hdr hln ⊢
 obtain ⟨V, hV⟩ : ∃ V, dropV (.slice (some ⟨g, o, none⟩) (NF + 1) cap) = V := ⟨_, rfl⟩
 rw [hV] at hdr
 have HDR := hid hdr
 have HV := hid hV
 have HNF := hid hNF
 obtain ⟨P, hP⟩ : ∃ P, p.row (.slice au p.any.length cu) = P := ⟨_, rfl⟩
 have hP1 : (#[.int .i64 p.op, .int .i64 p.n, .string ⟨p.typ.toArray⟩, .string ⟨p.value.toArray⟩, .string ⟨p.init.toArray⟩, .string ⟨p.final.toArray⟩, .slice au p.any.length cu] : Array Value) = P := hP
 have hP2 : P.size = 7 := by rw [← hP]; rfl
 have HP := hid hP
 have HP1 := hid hP1
 have HP2 := hid hP2
 have b1 : Below w.heap.size w (w.alloc (.cells Ze 45)) := (Below.refl _ _).alloc (Nat.le_refl _) _
 have t1 : (w.alloc (.cells Ze 45)).heap[w.heap.size]? = some (.cells Ze 45 (0, 0)) := alloc_at _ _ _ rfl
 have hs1 : (w.alloc (.cells Ze 45)).heap.size = w.heap.size + 1 := by simp
 have h01 := h0.trans (b1.mono h0.size)
 have q0 := (h01.cell (lt_of_cell c0)).trans c0
 have q1 := (h01.cell (lt_of_cell c1)).trans c1
 have q2 := (h01.cell (lt_of_cell c2)).trans c2
 have q3 := (h01.cell (lt_of_cell c3)).trans c3
 have q4 := (h01.cell (lt_of_cell c4)).trans c4
 have q5 := (h01.cell (lt_of_cell c5)).trans c5
 have q6 := (h01.cell (lt_of_cell c6)).trans c6
 have HS1 := hid hs1
 have H0 := hid h0
 clear hv hok hpo hdr hu hcu hNF hV hP hP1 hP2 c0 c1 c2 c3 c4 c5 c6 hs1 h01 h0
 go_enter Tryz.func119, Tryz.ntmps119
 go_upto_region 1 with fail
 generalize w.alloc (.cells Ze 45) = w1 at b1 t1 q0 q1 q2 q3 q4 q5 q6 HS1 ⊢
 go_upto_region 2 with fail
 rw [HP1.out]
 have b2 := b1.trans ((Below.refl w1.heap.size w1).alloc (Nat.le_refl _) (.cells P 60) |>.mono b1.size)
 have t2 := (alloc_old w1 (.cells P 60) w.heap.size (gl t1)).trans t1
 have m2 : (w1.alloc (.cells P 60)).heap[w.heap.size + 1]? = some (.cells P 60 (0, 0)) := alloc_at _ _ _ (by rw [HS1.out])
 have hs2 : (w1.alloc (.cells P 60)).heap.size = w.heap.size + 2 := by simp [HS1.out]
 rw [HS1.out]
 have HS2 := hid hs2
 clear q0 q1 q2 q3 q4 q5 q6 b1 t1 HS1 HP1 hs2
 generalize w1.alloc (.cells P 60) = w2 at b2 t2 m2 HS2 ⊢
 go_cut [0] from 11 to 12 (fun s0 wx => s0 = V ∧ wx = w2)
 case first =>
  by_cases hc1 : cap = 1
  ·have hVV : V = .slice (some ⟨g, o, none⟩) 0 0 := by rw [← HV.out]; simp [dropV, hc1]
   have HVV := hid hVV
   have hnf0 : NF = 0 := by omega
   subst hc1 hnf0
   clear hVV
   go_wp2_with fail
   go_meet
   exact ⟨by rw [HVV.out], rfl⟩
  ·have hVV : V = .slice (some ⟨g, o + 7, none⟩) NF (cap - 1) := by rw [← HV.out]; simp [dropV, hc1]
   have HVV := hid hVV
   have hc2 : ¬ (cap ≤ 1) := by omega
   have hc3 : 1 ≤ cap := by omega
   clear hVV
   go_wp2_with fail
   go_meet
   exact ⟨by rw [HVV.out], rfl⟩
 case rest =>
  obtain ⟨hs0, hwc⟩ := hcut
  rw [hs0, hwc]
  clear HV hs0 hwc
  have b3 := b2.trans ((Below.refl w2.heap.size w2).alloc (Nat.le_refl _) (.cells Ze 45) |>.mono b2.size)
  have t3 := (alloc_old w2 (.cells Ze 45) w.heap.size (gl t2)).trans t2
  have m3 := (alloc_old w2 (.cells Ze 45) (w.heap.size + 1) (gl m2)).trans m2
  have x3 : (w2.alloc (.cells Ze 45)).heap[w.heap.size + 2]? = some (.cells Ze 45 (0, 0)) := alloc_at _ _ _ (by rw [HS2.out])
  have hs3 : (w2.alloc (.cells Ze 45)).heap.size = w.heap.size + 3 := by simp [HS2.out]
  go_upto_region 4 with fail
  rw [HS2.out]
  have HS3 := hid hs3
  clear b2 t2 m2 HS2 hs3
  generalize w2.alloc (.cells Ze 45) = w3 at b3 t3 m3 x3 HS3 ⊢
  have q0 : w3.cell? ⟨w.heap.size + 1, 0, none⟩ = some (.int .i64 7) := (cell_of_heap m3 0).trans (by rw [← HP.out]; simp [Fl.row, HOP.out])
  have q2 : w3.cell? ⟨w.heap.size + 1, 2, none⟩ = some (.string ⟨p.typ.toArray⟩) := (cell_of_heap m3 2).trans (by rw [← HP.out]; rfl)
  have kc := mstr_any p.typ w3
  have hELX : El.mk 2 7 false p.typ [] = EX := by rw [← HEX.out]; simp [leafE, HOP.out]
  have HELX : Hid (El.mk 2 7 (El.cons (.mk 0 4 false p.typ [])) (El.bytes (.mk 0 4 false p.typ [])) (El.kids (.mk 0 4 false p.typ [])) = EX) := hid hELX
  clear hELX
  have hsm : SmE (.mk 0 4 false p.typ []) := by have := HPO.out.1; simp [SmE, SmL]; omega
  have HSM := hid hsm
  clear hsm
  go_wp2_with fail
  refine Calls.mono kc ?_
  rintro e w4 ⟨rfl, hb⟩
  clear kc q0 q2 HS3
  have t4 := (hb.block _ (gl t3)).trans t3
  have m4 := (hb.block _ (gl m3)).trans m3
  have x4 := (hb.block _ (gl x3)).trans x3
  have b4 := b3.trans (hb.mono b3.size)
  clear hb t3 m3 x3 b3
  obtain ⟨E0, hE0⟩ : ∃ E, elA (.mk 0 4 false p.typ []) (.slice none 0 0) = E := ⟨_, rfl⟩
  have hE0a : E0.all (·.oneCell') = true := by rw [← hE0]; simp [elA, Value.oneCell']
  have hE0s : E0.size = 5 := by rw [← hE0]; rfl
  rw [hE0]
  have HE0 := hid hE0
  have HE0a := hid hE0a
  have HE0s := hid hE0s
  clear hE0 hE0a hE0s
  have hz := (gl x4)
  have m5 := (setRow_other w4 (w.heap.size + 2) (w.heap.size + 1) E0 (by omega)).trans m4
  have t5 := (setRow_other w4 (w.heap.size + 2) w.heap.size E0 (by omega)).trans t4
  have x5 := setRow_heap w4 (w.heap.size + 2) _ E0 _ _ x4
  have b5 := below_row b4 (g := w.heap.size + 2) (by omega) E0
  go_upto_region 21 with (refine wpList_storeRow rfl 45 (.tmp 5) (.tmp 47) rfl (w.heap.size + 2) 45 _ E0 (by rfl) (by rfl) x4 (by rw [HE0s.out]; rfl) (by rw [HE0s.out]; rfl) HE0a.out ?_)
  clear t4 m4 x4 b4
  generalize w4.setRow (w.heap.size + 2) E0 = w5 at t5 m5 x5 b5 ⊢
  rw [← HE0.out] at x5 ⊢
  have hk : KidsAt (fun _ => True) w5 (.slice none 0 0) [] := KidsAt.nil _ _
  have HK := hid hk
  clear hk
  have q0 : w5.cell? ⟨w.heap.size + 1, 0, none⟩ = some (.int .i64 7) := (cell_of_heap m5 0).trans (by rw [← HP.out]; simp [Fl.row, HOP.out])
  obtain ⟨E1, hE1⟩ : ∃ E, elA (.mk 0 4 false p.typ []) (.slice none 0 0) = E := ⟨_, rfl⟩
  rw [hE1] at x5
  have hE1s : E1.size = 5 := by rw [← hE1]; rfl
  have kc := ctx_any (.mk 0 4 false p.typ []) (.slice none 0 0) (7) w5 (HK.out.mono (fun _ _ _ => trivial)) HSM.out
  rw [hE1, HELX.out, show El.kids (.mk 0 4 false p.typ []) = EX.kids from by rw [← HELX.out]; rfl] at kc
  have HE1 := hid hE1s
  clear hE1 hE1s
  go_wp2_with (refine wpList_loadRow rfl 45 (.tmp 5) rfl (w.heap.size + 2) 45 _ (0, 0) (by rfl) x5 _ Tryz.underlying45 rfl (by rw [HE1.out]; rfl) ?_)
  refine Calls.mono kc ?_
  rintro e w50 ⟨⟨u5, rfl, hu5⟩, hb⟩
  have t50 := (hb.block _ (gl t5)).trans t5
  have b50 := b5.trans (hb.mono b5.size)
  have hsz := (gl t5)
  clear kc hb t5 b5 m5 x5 q0
  obtain ⟨E, hE⟩ : ∃ E, elA EX u5 = E := ⟨_, rfl⟩
  have hEa : E.all (·.oneCell') = true := by
   obtain ⟨a, c, hsl⟩ := hu5.shape
   subst hsl
   rw [← hE]; simp [elA, Value.oneCell']
  have hEs : E.size = 5 := by rw [← hE]; rfl
  rw [hE]
  have bF := below_row b50 (g := w.heap.size) (Nat.le_refl _) E
  have tF := setRow_heap w50 w.heap.size _ E _ _ t50
  have uF : KidsAt (fun g => w.heap.size ≤ g) (w50.setRow w.heap.size E) u5 EX.kids := hu5.kept fun g hg hl => ⟨setRow_other w50 w.heap.size g E (by omega), by omega⟩
  have HE := hid hE
  have HEa := hid hEa
  have HEs := hid hEs
  have Tryz.underlying60 := hid uF
  clear hu5 hE hEa hEs uF b50
  go_wp2_with (refine wpList_storeRow rfl 45 (.tmp 2) (.tmp 60) rfl w.heap.size 45 _ E (by rfl) (by rfl) t50 (by rw [HEs.out]; rfl) (by rw [HEs.out]; rfl) HEa.out ?_)
  refine bodyPost_ret (v := .tuple #[.agg E, V]) ?_ rfl (by rw [HPR.out]; exact ⟨⟨u5, _, by rw [HE.out], Tryz.underlying60.out, HDR.out⟩, bF⟩)
  have hr := run_loadVar_row (P := Tryz.prog) (w50.setRow w.heap.size E) w.heap.size 45 45 E (0, 0) _ tF (show Tryz.prog.underlying 45 = _ from Tryz.underlying45) (by rfl) (by rw [HEs.out]; rfl)
  simp [results, Tryz.f119]
  show ((Sem.run Tryz.prog (loadVar 45 ⟨w.heap.size, 0, none⟩) (w50.setRow w.heap.size E)).andThen fun a w' => Result.ok (Value.tuple #[a, V]) w') = _
  rw [hr]
  simp
set_option maxRecDepth 100000 in
set_option maxHeartbeats 4000000 in
theorem filtered_4 (p : Fl) (f : List Fl) (v : Value) (w0 w : World) (h0 : Below w0.heap.size w0 w) (hv : FlsM w0 v (p :: f)) (hok : FlOk (p :: f)) (hln : f.length ≤ 100) (hop : p.op = 4) :
  Calls Tryz.prog 119 #[v] w (FiP w0 w (leafE p) f) := by
 unfold FiP
 have HOP := hid hop
 clear hop
 obtain ⟨EX, hEX⟩ : ∃ e : El, (leafE p : El) = e := ⟨_, rfl⟩
 rw [hEX]
 have HEX := hid hEX
 clear hEX
 obtain ⟨PR, hPR⟩ : ∃ PR : Ending → World → Prop, PR = fun e w' => (∃ u v', e = .returned (.tuple #[.agg (elA EX u), v']) ∧ KidsAt (fun g => w.heap.size ≤ g) w' u EX.kids ∧ FlsM w0 v' f) ∧ Below w.heap.size w w' := ⟨_, rfl⟩
 rw [← hPR]
 have HPR := hid hPR
 clear hPR
 have hpo := (hok.2 p (by simp)).1
 have HPO := hid hpo
 have HOK := hid hok.tail
 have hdr := hv.drop
 obtain ⟨g, o, cap, rfl, hcap, c0, c1, c2, c3, c4, c5, u0, c6, hu⟩ := hv.first
 obtain ⟨au, cu, hus, hcu, -⟩ := id hu
 subst hus
 have HU := hid (hu.below h0)
 obtain ⟨NF, hNF⟩ : ∃ n, f.length = n := ⟨_, rfl⟩
 rw [hNF] at hcap hdr hln ⊢
 obtain ⟨V, hV⟩ : ∃ V, dropV (.slice (some ⟨g, o, none⟩) (NF + 1) cap) = V := ⟨_, rfl⟩
 rw [hV] at hdr
 have HDR := hid hdr
 have HV := hid hV
 have HNF := hid hNF
 obtain ⟨P, hP⟩ : ∃ P, p.row (.slice au p.any.length cu) = P := ⟨_, rfl⟩
 have hP1 : (#[.int .i64 p.op, .int .i64 p.n, .string ⟨p.typ.toArray⟩, .string ⟨p.value.toArray⟩, .string ⟨p.init.toArray⟩, .string ⟨p.final.toArray⟩, .slice au p.any.length cu] : Array Value) = P := hP
 have hP2 : P.size = 7 := by rw [← hP]; rfl
 have HP := hid hP
 have HP1 := hid hP1
 have HP2 := hid hP2
 have b1 : Below w.heap.size w (w.alloc (.cells Ze 45)) := (Below.refl _ _).alloc (Nat.le_refl _) _
 have t1 : (w.alloc (.cells Ze 45)).heap[w.heap.size]? = some (.cells Ze 45 (0, 0)) := alloc_at _ _ _ rfl
 have hs1 : (w.alloc (.cells Ze 45)).heap.size = w.heap.size + 1 := by simp
 have h01 := h0.trans (b1.mono h0.size)
 have q0 := (h01.cell (lt_of_cell c0)).trans c0
 have q1 := (h01.cell (lt_of_cell c1)).trans c1
 have q2 := (h01.cell (lt_of_cell c2)).trans c2
 have q3 := (h01.cell (lt_of_cell c3)).trans c3
 have q4 := (h01.cell (lt_of_cell c4)).trans c4
 have q5 := (h01.cell (lt_of_cell c5)).trans c5
 have q6 := (h01.cell (lt_of_cell c6)).trans c6
 have HS1 := hid hs1
 have H0 := hid h0
 clear hv hok hpo hdr hu hcu hNF hV hP hP1 hP2 c0 c1 c2 c3 c4 c5 c6 hs1 h01 h0
 go_enter Tryz.func119, Tryz.ntmps119
 go_upto_region 1 with fail
 generalize w.alloc (.cells Ze 45) = w1 at b1 t1 q0 q1 q2 q3 q4 q5 q6 HS1 ⊢
 go_upto_region 2 with fail
 rw [HP1.out]
 have b2 := b1.trans ((Below.refl w1.heap.size w1).alloc (Nat.le_refl _) (.cells P 60) |>.mono b1.size)
 have t2 := (alloc_old w1 (.cells P 60) w.heap.size (gl t1)).trans t1
 have m2 : (w1.alloc (.cells P 60)).heap[w.heap.size + 1]? = some (.cells P 60 (0, 0)) := alloc_at _ _ _ (by rw [HS1.out])
 have hs2 : (w1.alloc (.cells P 60)).heap.size = w.heap.size + 2 := by simp [HS1.out]
 rw [HS1.out]
 have HS2 := hid hs2
 clear q0 q1 q2 q3 q4 q5 q6 b1 t1 HS1 HP1 hs2
 generalize w1.alloc (.cells P 60) = w2 at b2 t2 m2 HS2 ⊢
 go_cut [0] from 11 to 12 (fun s0 wx => s0 = V ∧ wx = w2)
 case first =>
  by_cases hc1 : cap = 1
  ·have hVV : V = .slice (some ⟨g, o, none⟩) 0 0 := by rw [← HV.out]; simp [dropV, hc1]
   have HVV := hid hVV
   have hnf0 : NF = 0 := by omega
   subst hc1 hnf0
   clear hVV
   go_wp2_with fail
   go_meet
   exact ⟨by rw [HVV.out], rfl⟩
  ·have hVV : V = .slice (some ⟨g, o + 7, none⟩) NF (cap - 1) := by rw [← HV.out]; simp [dropV, hc1]
   have HVV := hid hVV
   have hc2 : ¬ (cap ≤ 1) := by omega
   have hc3 : 1 ≤ cap := by omega
   clear hVV
   go_wp2_with fail
   go_meet
   exact ⟨by rw [HVV.out], rfl⟩
 case rest =>
  obtain ⟨hs0, hwc⟩ := hcut
  rw [hs0, hwc]
  clear HV hs0 hwc
  have b3 := b2.trans ((Below.refl w2.heap.size w2).alloc (Nat.le_refl _) (.cells Ze 45) |>.mono b2.size)
  have t3 := (alloc_old w2 (.cells Ze 45) w.heap.size (gl t2)).trans t2
  have m3 := (alloc_old w2 (.cells Ze 45) (w.heap.size + 1) (gl m2)).trans m2
  have x3 : (w2.alloc (.cells Ze 45)).heap[w.heap.size + 2]? = some (.cells Ze 45 (0, 0)) := alloc_at _ _ _ (by rw [HS2.out])
  have hs3 : (w2.alloc (.cells Ze 45)).heap.size = w.heap.size + 3 := by simp [HS2.out]
  go_upto_region 4 with fail
  rw [HS2.out]
  have HS3 := hid hs3
  clear b2 t2 m2 HS2 hs3
  generalize w2.alloc (.cells Ze 45) = w3 at b3 t3 m3 x3 HS3 ⊢
  have q0 : w3.cell? ⟨w.heap.size + 1, 0, none⟩ = some (.int .i64 4) := (cell_of_heap m3 0).trans (by rw [← HP.out]; simp [Fl.row, HOP.out])
  have hELX : El.mk 2 (4) true [] [strL p.typ, .mk 0 16 true [] (piecesE p)] = EX := by rw [← HEX.out]; simp [leafE, HOP.out]
  have HELX : Hid (El.mk 2 (4) (El.cons (.mk 0 16 true [] [strL p.typ, .mk 0 16 true [] (piecesE p)])) (El.bytes (.mk 0 16 true [] [strL p.typ, .mk 0 16 true [] (piecesE p)])) (El.kids (.mk 0 16 true [] [strL p.typ, .mk 0 16 true [] (piecesE p)])) = EX) := hid hELX
  clear hELX
  have hpo := HPO.out
  have hsm : SmE (.mk 0 16 true [] [strL p.typ, .mk 0 16 true [] (piecesE p)]) := by
   obtain ⟨k1, k2, k3, k4, k5, k6⟩ := hpo
   have := sm_pieces p HPO.out
   have := len_pieces p HPO.out
   simp only [SmE, SmL, strL]
   simp
   exact ⟨by omega, by assumption, by assumption⟩
  have HSM := hid hsm
  clear hsm hpo
  go_upto_region 20 with fail
  clear q0
  have T : w3.drew.heap[w.heap.size + 1]? = some (.cells P 60 (0, 0)) ∧ w3.drew.heap[w.heap.size + 2]? = some (.cells Ze 45 (0, 0)) := ⟨m3, x3⟩
  have D : Below w.heap.size w w3.drew := b3.drew
  have R : w3.drew.heap[w.heap.size]? = some (.cells Ze 45 (0, 0)) := t3
  refine wp_region_held (S := (fun w' => w'.heap[w.heap.size + 1]? = some (.cells P 60 (0, 0)))) (by kernel_rfl) ?_
  change wpAnyH _ _ _ _ _ _ _ _ w3.drew
  clear m3 x3 b3 t3 HS3
  generalize w3.drew = w4 at T D R ⊢
  refine tk 0 (.pointer (some ⟨w.heap.size + 1, 2, none⟩)) rfl (fun w' hS => by go_simp) T.1 (fun K hK => ?_); go_simp; refine hK _ _ ?_; clear hK K
  refine tk 1 (.string ⟨p.typ.toArray⟩) rfl (fun w' hS => by have q := (cell_of_heap hS 2).trans (show _ = some (Value.string ⟨p.typ.toArray⟩) from by rw [← HP.out]; rfl); go_simp) T.1 (fun K hK => ?_); go_simp; refine hK _ _ ?_; clear hK K
  refine tk 3 (.agg P) rfl (fun w' hS => by exact exec_loadRow 60 (.tmp 4) rfl (w.heap.size + 1) 60 _ (0, 0) (by rfl) hS _ Tryz.underlying60 rfl (by rw [HP2.out]; rfl)) T.1 (fun K hK => ?_); go_simp; refine hK _ _ ?_; clear hK K
  have kc := mstr_any p.typ w4
  refine anyH_one 2 (by kernel_rfl) rfl (by rfl) (fun K hK => ?_); go_simp; go_wp2_with fail
  refine Calls.mono kc ?_
  rintro e w5 ⟨rfl, hb⟩
  have T9 : w5.heap[w.heap.size + 1]? = some (.cells P 60 (0, 0)) ∧ w5.heap[w.heap.size + 2]? = some (.cells Ze 45 (0, 0)) := ⟨(hb.block _ (gl T.1)).trans T.1, (hb.block _ (gl T.2)).trans T.2⟩
  have D9 := D.trans (hb.mono D.size)
  have R9 := (hb.block _ (gl R)).trans R
  clear kc hb T D R
  have T := T9
  have D := D9
  have R := R9
  clear T9 D9 R9
  refine hK _ _ T.1 ?_; clear hK K
  have kc := pieces_any p _ w5 (HU.out.below D) HPO.out
  rw [HP.out] at kc
  refine anyH_one 4 (by kernel_rfl) rfl (by rfl) (fun K hK => ?_); go_simp; go_wp2_with fail
  refine Calls.mono kc ?_
  rintro e w6 ⟨⟨u6, rfl, hu6⟩, hb⟩
  obtain ⟨a6, c6, hs6⟩ := hu6.shape
  subst hs6
  have T9 : w6.heap[w.heap.size + 1]? = some (.cells P 60 (0, 0)) ∧ w6.heap[w.heap.size + 2]? = some (.cells Ze 45 (0, 0)) := ⟨(hb.block _ (gl T.1)).trans T.1, (hb.block _ (gl T.2)).trans T.2⟩
  have D9 := D.trans (hb.mono D.size)
  have R9 := (hb.block _ (gl R)).trans R
  clear kc hb T D R
  have T := T9
  have D := D9
  have R := R9
  clear T9 D9 R9
  refine hK _ _ T.1 ?_; clear hK K
  simp only [elA, El.cls, El.tag, El.cons, El.bytes]
  have hb : Below w6.heap.size w6 (w6.alloc (.cells #[.int .i64 0, .int .i64 4, .bool false, .string ⟨p.typ.toArray⟩, .slice none 0 0, .int .i64 0, .int .i64 16, .bool true, .string ⟨#[]⟩, .slice a6 (piecesE p).length c6] 45)) := (Below.refl _ _).alloc (Nat.le_refl _) _
  have x : (w6.alloc (.cells #[.int .i64 0, .int .i64 4, .bool false, .string ⟨p.typ.toArray⟩, .slice none 0 0, .int .i64 0, .int .i64 16, .bool true, .string ⟨#[]⟩, .slice a6 (piecesE p).length c6] 45)).heap[w6.heap.size]? = some (.cells #[.int .i64 0, .int .i64 4, .bool false, .string ⟨p.typ.toArray⟩, .slice none 0 0, .int .i64 0, .int .i64 16, .bool true, .string ⟨#[]⟩, .slice a6 (piecesE p).length c6] 45 (0, 0)) := alloc_at _ _ _ rfl
  have o7 : OwnK (w.heap.size + 1) (w6.alloc (.cells #[.int .i64 0, .int .i64 4, .bool false, .string ⟨p.typ.toArray⟩, .slice none 0 0, .int .i64 0, .int .i64 16, .bool true, .string ⟨#[]⟩, .slice a6 (piecesE p).length c6] 45)) (.slice (some ⟨w6.heap.size, 0, none⟩) 2 2) [strL p.typ, .mk 0 16 true [] (piecesE p)] :=
   OwnK.flat (l := [strL p.typ, .mk 0 16 true [] (piecesE p)]) (us := [.slice none 0 0, .slice a6 (piecesE p).length c6]) x (by simp [flatE, strL, El.cls, El.tag, El.cons, El.bytes]) rfl (by have := (gl R); omega) (by simp) (fun j e u q1 q2 => by
    have h3 : j = 0 ∨ j = 1 := by have h9 := (List.getElem?_eq_some_iff.1 q1).1; simp at h9; omega
    rcases h3 with rfl | rfl
    ·simp at q1 q2; subst q1; subst q2; exact KidsAt.no _ _ _ _
    ·simp at q1 q2; subst q1; subst q2; exact hu6.kept fun g hg hl => ⟨hb.block g hl, fun h => by cases h; omega⟩)
  have T9 : (w6.alloc (.cells #[.int .i64 0, .int .i64 4, .bool false, .string ⟨p.typ.toArray⟩, .slice none 0 0, .int .i64 0, .int .i64 16, .bool true, .string ⟨#[]⟩, .slice a6 (piecesE p).length c6] 45)).heap[w.heap.size + 1]? = some (.cells P 60 (0, 0)) ∧ (w6.alloc (.cells #[.int .i64 0, .int .i64 4, .bool false, .string ⟨p.typ.toArray⟩, .slice none 0 0, .int .i64 0, .int .i64 16, .bool true, .string ⟨#[]⟩, .slice a6 (piecesE p).length c6] 45)).heap[w.heap.size + 2]? = some (.cells Ze 45 (0, 0)) := ⟨(hb.block _ (gl T.1)).trans T.1, (hb.block _ (gl T.2)).trans T.2⟩
  have D9 := D.trans (hb.mono D.size)
  have R9 := (hb.block _ (gl R)).trans R
  clear hb x T D R hu6
  refine anyH_one 5 (by kernel_rfl) rfl (by rfl) (fun K hK => ?_); go_simp; refine hK _ _ T9.1 ?_; clear hK K
  generalize w6.alloc (.cells #[.int .i64 0, .int .i64 4, .bool false, .string ⟨p.typ.toArray⟩, .slice none 0 0, .int .i64 0, .int .i64 16, .bool true, .string ⟨#[]⟩, .slice a6 (piecesE p).length c6] 45) = w7 at T9 D9 R9 o7 ⊢
  generalize w6.heap.size = y at o7 ⊢
  have kc := Seq_any [strL p.typ, .mk 0 16 true [] (piecesE p)] _ w7 o7.kids (by have h := HSM.out; simp only [SmE] at h; exact h.2.2) (by simp)
  have T := T9
  have D := D9
  have R := R9
  clear T9 D9 R9 o7
  refine anyH_one 6 (by kernel_rfl) rfl (by rfl) (fun K hK => ?_); go_simp; go_wp2_with fail
  refine Calls.mono kc ?_
  rintro e w8 ⟨⟨u8, rfl, hu8⟩, hb⟩
  have m8 := (hb.block _ (gl T.1)).trans T.1
  have x8 := (hb.block _ (gl T.2)).trans T.2
  have b8 := D.trans (hb.mono D.size)
  have t8 := (hb.block _ (gl R)).trans R
  have hz3 := D.size
  have hz4 := (gl T.2)
  clear kc hb T D R
  refine hK _ _ m8 ?_; clear hK K
  obtain ⟨E0, hE0⟩ : ∃ E, elA (.mk 0 16 true [] [strL p.typ, .mk 0 16 true [] (piecesE p)]) u8 = E := ⟨_, rfl⟩
  have hE0a : E0.all (·.oneCell') = true := by
   obtain ⟨a, c, hsl⟩ := hu8.shape
   subst hsl
   rw [← hE0]; simp [elA, Value.oneCell']
  have hE0s : E0.size = 5 := by rw [← hE0]; rfl
  rw [hE0]
  have HE0 := hid hE0
  have HE0a := hid hE0a
  have HE0s := hid hE0s
  clear hE0 hE0a hE0s
  have m9 := (setRow_other w8 (w.heap.size + 2) (w.heap.size + 1) E0 (by omega)).trans m8
  have t9 := (setRow_other w8 (w.heap.size + 2) w.heap.size E0 (by omega)).trans t8
  have x9 := setRow_heap w8 (w.heap.size + 2) _ E0 _ _ x8
  have b9 := below_row b8 (g := w.heap.size + 2) (by omega) E0
  have hk : KidsAt (fun _ => True) (w8.setRow (w.heap.size + 2) E0) u8 [strL p.typ, .mk 0 16 true [] (piecesE p)] := hu8.kept fun g hg hl => ⟨setRow_other w8 (w.heap.size + 2) g E0 (by omega), trivial⟩
  have HK := hid hk
  clear hk hu8
  refine anyH_one 7 (by kernel_rfl) rfl (by rfl) (fun K hK => ?_)
  refine op_storeRow 45 (.tmp 5) (.tmp 56) rfl (w.heap.size + 2) 45 _ E0 (by rfl) (by rfl) x8 (by rw [HE0s.out]; rfl) (by rw [HE0s.out]; rfl) HE0a.out ?_
  refine hK _ _ m9 ?_; clear hK K
  refine wpAnyH_done (by kernel_rfl) ?_ _
  try simp only [Exit.then]
  refine ‹∀ (a : Act) (w : World), Code.wp _ _ _ a w → _› _ _ ?_
  clear t8 m8 x8 b8
  generalize w8.setRow (w.heap.size + 2) E0 = w9 at t9 m9 x9 b9 HK ⊢
  rw [← HE0.out] at x9
  have q0 : w9.cell? ⟨w.heap.size + 1, 0, none⟩ = some (.int .i64 4) := (cell_of_heap m9 0).trans (by rw [← HP.out]; simp [Fl.row, HOP.out])
  obtain ⟨E1, hE1⟩ : ∃ E, elA (.mk 0 16 true [] [strL p.typ, .mk 0 16 true [] (piecesE p)]) (u8) = E := ⟨_, rfl⟩
  rw [hE1] at x9
  have hE1s : E1.size = 5 := by rw [← hE1]; rfl
  have kc := ctx_any (.mk 0 16 true [] [strL p.typ, .mk 0 16 true [] (piecesE p)]) (u8) (4) w9 (HK.out.mono (fun _ _ _ => trivial)) HSM.out
  rw [hE1, HELX.out, show El.kids (.mk 0 16 true [] [strL p.typ, .mk 0 16 true [] (piecesE p)]) = EX.kids from by rw [← HELX.out]; rfl] at kc
  have HE1 := hid hE1s
  clear hE1 hE1s
  go_wp2_with (refine wpList_loadRow rfl 45 (.tmp 5) rfl (w.heap.size + 2) 45 _ (0, 0) (by rfl) x9 _ Tryz.underlying45 rfl (by rw [HE1.out]; rfl) ?_)
  refine Calls.mono kc ?_
  rintro e w50 ⟨⟨u5, rfl, hu5⟩, hb⟩
  have t50 := (hb.block _ (gl t9)).trans t9
  have b50 := b9.trans (hb.mono b9.size)
  have hsz := (gl t9)
  clear kc hb t9 b9 m9 x9 q0
  obtain ⟨E, hE⟩ : ∃ E, elA EX u5 = E := ⟨_, rfl⟩
  have hEa : E.all (·.oneCell') = true := by
   obtain ⟨a, c, hsl⟩ := hu5.shape
   subst hsl
   rw [← hE]; simp [elA, Value.oneCell']
  have hEs : E.size = 5 := by rw [← hE]; rfl
  rw [hE]
  have bF := below_row b50 (g := w.heap.size) (Nat.le_refl _) E
  have tF := setRow_heap w50 w.heap.size _ E _ _ t50
  have uF : KidsAt (fun g => w.heap.size ≤ g) (w50.setRow w.heap.size E) u5 EX.kids := hu5.kept fun g hg hl => ⟨setRow_other w50 w.heap.size g E (by omega), by omega⟩
  have HE := hid hE
  have HEa := hid hEa
  have HEs := hid hEs
  have Tryz.underlying60 := hid uF
  clear hu5 hE hEa hEs uF b50
  go_wp2_with (refine wpList_storeRow rfl 45 (.tmp 2) (.tmp 60) rfl w.heap.size 45 _ E (by rfl) (by rfl) t50 (by rw [HEs.out]; rfl) (by rw [HEs.out]; rfl) HEa.out ?_)
  refine bodyPost_ret (v := .tuple #[.agg E, V]) ?_ rfl (by rw [HPR.out]; exact ⟨⟨u5, _, by rw [HE.out], Tryz.underlying60.out, HDR.out⟩, bF⟩)
  have hr := run_loadVar_row (P := Tryz.prog) (w50.setRow w.heap.size E) w.heap.size 45 45 E (0, 0) _ tF (show Tryz.prog.underlying 45 = _ from Tryz.underlying45) (by rfl) (by rw [HEs.out]; rfl)
  simp [results, Tryz.f119]
  show ((Sem.run Tryz.prog (loadVar 45 ⟨w.heap.size, 0, none⟩) (w50.setRow w.heap.size E)).andThen fun a w' => Result.ok (Value.tuple #[a, V]) w') = _
  rw [hr]
  simp
set_option maxRecDepth 100000 in
set_option maxHeartbeats 4000000 in
theorem filtered_leaf (p : Fl) (f : List Fl) (v : Value) (w0 w : World) (h0 : Below w0.heap.size w0 w) (hv : FlsM w0 v (p :: f)) (hok : FlOk (p :: f)) (hln : f.length ≤ 100) (hop : p.op ∉ ([0, 1, 2, 4, 7] : List Int)) :
  Calls Tryz.prog 119 #[v] w (FiP w0 w (leafE p) f) := by
 unfold FiP
 have HOP := hid hop
 clear hop
 obtain ⟨EX, hEX⟩ : ∃ e : El, (leafE p : El) = e := ⟨_, rfl⟩
 rw [hEX]
 have HEX := hid hEX
 clear hEX
 obtain ⟨PR, hPR⟩ : ∃ PR : Ending → World → Prop, PR = fun e w' => (∃ u v', e = .returned (.tuple #[.agg (elA EX u), v']) ∧ KidsAt (fun g => w.heap.size ≤ g) w' u EX.kids ∧ FlsM w0 v' f) ∧ Below w.heap.size w w' := ⟨_, rfl⟩
 rw [← hPR]
 have HPR := hid hPR
 clear hPR
 have hpo := (hok.2 p (by simp)).1
 have HPO := hid hpo
 have HOK := hid hok.tail
 have hdr := hv.drop
 obtain ⟨g, o, cap, rfl, hcap, c0, c1, c2, c3, c4, c5, u0, c6, hu⟩ := hv.first
 obtain ⟨au, cu, hus, hcu, -⟩ := id hu
 subst hus
 have HU := hid (hu.below h0)
 obtain ⟨NF, hNF⟩ : ∃ n, f.length = n := ⟨_, rfl⟩
 rw [hNF] at hcap hdr hln ⊢
 obtain ⟨V, hV⟩ : ∃ V, dropV (.slice (some ⟨g, o, none⟩) (NF + 1) cap) = V := ⟨_, rfl⟩
 rw [hV] at hdr
 have HDR := hid hdr
 have HV := hid hV
 have HNF := hid hNF
 obtain ⟨P, hP⟩ : ∃ P, p.row (.slice au p.any.length cu) = P := ⟨_, rfl⟩
 have hP1 : (#[.int .i64 p.op, .int .i64 p.n, .string ⟨p.typ.toArray⟩, .string ⟨p.value.toArray⟩, .string ⟨p.init.toArray⟩, .string ⟨p.final.toArray⟩, .slice au p.any.length cu] : Array Value) = P := hP
 have hP2 : P.size = 7 := by rw [← hP]; rfl
 have HP := hid hP
 have HP1 := hid hP1
 have HP2 := hid hP2
 have b1 : Below w.heap.size w (w.alloc (.cells Ze 45)) := (Below.refl _ _).alloc (Nat.le_refl _) _
 have t1 : (w.alloc (.cells Ze 45)).heap[w.heap.size]? = some (.cells Ze 45 (0, 0)) := alloc_at _ _ _ rfl
 have hs1 : (w.alloc (.cells Ze 45)).heap.size = w.heap.size + 1 := by simp
 have h01 := h0.trans (b1.mono h0.size)
 have q0 := (h01.cell (lt_of_cell c0)).trans c0
 have q1 := (h01.cell (lt_of_cell c1)).trans c1
 have q2 := (h01.cell (lt_of_cell c2)).trans c2
 have q3 := (h01.cell (lt_of_cell c3)).trans c3
 have q4 := (h01.cell (lt_of_cell c4)).trans c4
 have q5 := (h01.cell (lt_of_cell c5)).trans c5
 have q6 := (h01.cell (lt_of_cell c6)).trans c6
 have HS1 := hid hs1
 have H0 := hid h0
 clear hv hok hpo hdr hu hcu hNF hV hP hP1 hP2 c0 c1 c2 c3 c4 c5 c6 hs1 h01 h0
 go_enter Tryz.func119, Tryz.ntmps119
 go_upto_region 1 with fail
 generalize w.alloc (.cells Ze 45) = w1 at b1 t1 q0 q1 q2 q3 q4 q5 q6 HS1 ⊢
 go_upto_region 2 with fail
 rw [HP1.out]
 have b2 := b1.trans ((Below.refl w1.heap.size w1).alloc (Nat.le_refl _) (.cells P 60) |>.mono b1.size)
 have t2 := (alloc_old w1 (.cells P 60) w.heap.size (gl t1)).trans t1
 have m2 : (w1.alloc (.cells P 60)).heap[w.heap.size + 1]? = some (.cells P 60 (0, 0)) := alloc_at _ _ _ (by rw [HS1.out])
 have hs2 : (w1.alloc (.cells P 60)).heap.size = w.heap.size + 2 := by simp [HS1.out]
 rw [HS1.out]
 have HS2 := hid hs2
 clear q0 q1 q2 q3 q4 q5 q6 b1 t1 HS1 HP1 hs2
 generalize w1.alloc (.cells P 60) = w2 at b2 t2 m2 HS2 ⊢
 go_cut [0] from 11 to 12 (fun s0 wx => s0 = V ∧ wx = w2)
 case first =>
  by_cases hc1 : cap = 1
  ·have hVV : V = .slice (some ⟨g, o, none⟩) 0 0 := by rw [← HV.out]; simp [dropV, hc1]
   have HVV := hid hVV
   have hnf0 : NF = 0 := by omega
   subst hc1 hnf0
   clear hVV
   go_wp2_with fail
   go_meet
   exact ⟨by rw [HVV.out], rfl⟩
  ·have hVV : V = .slice (some ⟨g, o + 7, none⟩) NF (cap - 1) := by rw [← HV.out]; simp [dropV, hc1]
   have HVV := hid hVV
   have hc2 : ¬ (cap ≤ 1) := by omega
   have hc3 : 1 ≤ cap := by omega
   clear hVV
   go_wp2_with fail
   go_meet
   exact ⟨by rw [HVV.out], rfl⟩
 case rest =>
  obtain ⟨hs0, hwc⟩ := hcut
  rw [hs0, hwc]
  clear HV hs0 hwc
  have b3 := b2.trans ((Below.refl w2.heap.size w2).alloc (Nat.le_refl _) (.cells Ze 45) |>.mono b2.size)
  have t3 := (alloc_old w2 (.cells Ze 45) w.heap.size (gl t2)).trans t2
  have m3 := (alloc_old w2 (.cells Ze 45) (w.heap.size + 1) (gl m2)).trans m2
  have x3 : (w2.alloc (.cells Ze 45)).heap[w.heap.size + 2]? = some (.cells Ze 45 (0, 0)) := alloc_at _ _ _ (by rw [HS2.out])
  have hs3 : (w2.alloc (.cells Ze 45)).heap.size = w.heap.size + 3 := by simp [HS2.out]
  go_upto_region 4 with fail
  rw [HS2.out]
  have HS3 := hid hs3
  clear b2 t2 m2 HS2 hs3
  generalize w2.alloc (.cells Ze 45) = w3 at b3 t3 m3 x3 HS3 ⊢
  have q0 : w3.cell? ⟨w.heap.size + 1, 0, none⟩ = some (.int .i64 p.op) := (cell_of_heap m3 0).trans (by rw [← HP.out]; rfl)
  have hc : ∀ k : Int, k ∈ ([0, 1, 2, 4, 7] : List Int) → (p.op == k) = false := fun k hk => beq_false_of_ne (fun h => by have h2 := HOP.out; rw [h] at h2; exact h2 hk)
  have f0 := hc 0 (by decide)
  have f1 := hc 1 (by decide)
  have f2 := hc 2 (by decide)
  have f4 := hc 4 (by decide)
  have f7 := hc 7 (by decide)
  clear hc
  have hELX : El.mk 2 (p.op) true [] [strL p.typ, strL p.value] = EX := by rw [← HEX.out]; unfold leafE; rw [if_neg (by simpa using f7), if_neg (by simpa using f4)]
  have HELX : Hid (El.mk 2 (p.op) (El.cons (.mk 0 16 true [] [strL p.typ, strL p.value])) (El.bytes (.mk 0 16 true [] [strL p.typ, strL p.value])) (El.kids (.mk 0 16 true [] [strL p.typ, strL p.value])) = EX) := hid hELX
  clear hELX
  have hpo := HPO.out
  have hsm : SmE (.mk 0 16 true [] [strL p.typ, strL p.value]) := by
   obtain ⟨k1, k2, k3, k4, k5, k6⟩ := hpo
   simp only [SmE, SmL, strL]
   simp
   omega
  have HSM := hid hsm
  clear hsm hpo
  go_upto_region 5 with fail
  clear q0
  have T : w3.drew.heap[w.heap.size + 1]? = some (.cells P 60 (0, 0)) ∧ w3.drew.heap[w.heap.size + 2]? = some (.cells Ze 45 (0, 0)) := ⟨m3, x3⟩
  have D : Below w.heap.size w w3.drew := b3.drew
  have R : w3.drew.heap[w.heap.size]? = some (.cells Ze 45 (0, 0)) := t3
  refine wp_region_held (S := (fun w' => w'.heap[w.heap.size + 1]? = some (.cells P 60 (0, 0)))) (by kernel_rfl) ?_
  change wpAnyH _ _ _ _ _ _ _ _ w3.drew
  clear m3 x3 b3 t3 HS3
  generalize w3.drew = w4 at T D R ⊢
  refine tk 0 (.pointer (some ⟨w.heap.size + 1, 2, none⟩)) rfl (fun w' hS => by go_simp) T.1 (fun K hK => ?_); go_simp; refine hK _ _ ?_; clear hK K
  refine tk 1 (.string ⟨p.typ.toArray⟩) rfl (fun w' hS => by have q := (cell_of_heap hS 2).trans (show _ = some (Value.string ⟨p.typ.toArray⟩) from by rw [← HP.out]; rfl); go_simp) T.1 (fun K hK => ?_); go_simp; refine hK _ _ ?_; clear hK K
  refine tk 3 (.pointer (some ⟨w.heap.size + 1, 3, none⟩)) rfl (fun w' hS => by go_simp) T.1 (fun K hK => ?_); go_simp; refine hK _ _ ?_; clear hK K
  refine tk 4 (.string ⟨p.value.toArray⟩) rfl (fun w' hS => by have q := (cell_of_heap hS 3).trans (show _ = some (Value.string ⟨p.value.toArray⟩) from by rw [← HP.out]; rfl); go_simp) T.1 (fun K hK => ?_); go_simp; refine hK _ _ ?_; clear hK K
  have kc := mstr_any p.typ w4
  refine anyH_one 2 (by kernel_rfl) rfl (by rfl) (fun K hK => ?_); go_simp; go_wp2_with fail
  refine Calls.mono kc ?_
  rintro e w5 ⟨rfl, hb⟩
  have T9 : w5.heap[w.heap.size + 1]? = some (.cells P 60 (0, 0)) ∧ w5.heap[w.heap.size + 2]? = some (.cells Ze 45 (0, 0)) := ⟨(hb.block _ (gl T.1)).trans T.1, (hb.block _ (gl T.2)).trans T.2⟩
  have D9 := D.trans (hb.mono D.size)
  have R9 := (hb.block _ (gl R)).trans R
  clear kc hb T D R
  have T := T9
  have D := D9
  have R := R9
  clear T9 D9 R9
  refine hK _ _ T.1 ?_; clear hK K
  have kc := mstr_any p.value w5
  refine anyH_one 5 (by kernel_rfl) rfl (by rfl) (fun K hK => ?_); go_simp; go_wp2_with fail
  refine Calls.mono kc ?_
  rintro e w6 ⟨rfl, hb⟩
  have T9 : w6.heap[w.heap.size + 1]? = some (.cells P 60 (0, 0)) ∧ w6.heap[w.heap.size + 2]? = some (.cells Ze 45 (0, 0)) := ⟨(hb.block _ (gl T.1)).trans T.1, (hb.block _ (gl T.2)).trans T.2⟩
  have D9 := D.trans (hb.mono D.size)
  have R9 := (hb.block _ (gl R)).trans R
  clear kc hb T D R
  have T := T9
  have D := D9
  have R := R9
  clear T9 D9 R9
  refine hK _ _ T.1 ?_; clear hK K
  have hu6 : KidsAt (fun _ => True) w6 (.slice none 0 0) [] := KidsAt.nil _ _
  simp only [elA, El.cls, El.tag, El.cons, El.bytes]
  have hb : Below w6.heap.size w6 (w6.alloc (.cells #[.int .i64 0, .int .i64 4, .bool false, .string ⟨p.typ.toArray⟩, .slice none 0 0, .int .i64 0, .int .i64 4, .bool false, .string ⟨p.value.toArray⟩, .slice none 0 0] 45)) := (Below.refl _ _).alloc (Nat.le_refl _) _
  have x : (w6.alloc (.cells #[.int .i64 0, .int .i64 4, .bool false, .string ⟨p.typ.toArray⟩, .slice none 0 0, .int .i64 0, .int .i64 4, .bool false, .string ⟨p.value.toArray⟩, .slice none 0 0] 45)).heap[w6.heap.size]? = some (.cells #[.int .i64 0, .int .i64 4, .bool false, .string ⟨p.typ.toArray⟩, .slice none 0 0, .int .i64 0, .int .i64 4, .bool false, .string ⟨p.value.toArray⟩, .slice none 0 0] 45 (0, 0)) := alloc_at _ _ _ rfl
  have o7 : OwnK (w.heap.size + 1) (w6.alloc (.cells #[.int .i64 0, .int .i64 4, .bool false, .string ⟨p.typ.toArray⟩, .slice none 0 0, .int .i64 0, .int .i64 4, .bool false, .string ⟨p.value.toArray⟩, .slice none 0 0] 45)) (.slice (some ⟨w6.heap.size, 0, none⟩) 2 2) [strL p.typ, strL p.value] :=
   OwnK.flat (l := [strL p.typ, strL p.value]) (us := [.slice none 0 0, .slice none 0 0]) x (by simp [flatE, strL, El.cls, El.tag, El.cons, El.bytes]) rfl (by have := (gl R); omega) (by simp) (fun j e u q1 q2 => by
    have h3 : j = 0 ∨ j = 1 := by have h9 := (List.getElem?_eq_some_iff.1 q1).1; simp at h9; omega
    rcases h3 with rfl | rfl
    ·simp at q1 q2; subst q1; subst q2; exact KidsAt.no _ _ _ _
    ·simp at q1 q2; subst q1; subst q2; exact KidsAt.no _ _ _ _)
  have T9 : (w6.alloc (.cells #[.int .i64 0, .int .i64 4, .bool false, .string ⟨p.typ.toArray⟩, .slice none 0 0, .int .i64 0, .int .i64 4, .bool false, .string ⟨p.value.toArray⟩, .slice none 0 0] 45)).heap[w.heap.size + 1]? = some (.cells P 60 (0, 0)) ∧ (w6.alloc (.cells #[.int .i64 0, .int .i64 4, .bool false, .string ⟨p.typ.toArray⟩, .slice none 0 0, .int .i64 0, .int .i64 4, .bool false, .string ⟨p.value.toArray⟩, .slice none 0 0] 45)).heap[w.heap.size + 2]? = some (.cells Ze 45 (0, 0)) := ⟨(hb.block _ (gl T.1)).trans T.1, (hb.block _ (gl T.2)).trans T.2⟩
  have D9 := D.trans (hb.mono D.size)
  have R9 := (hb.block _ (gl R)).trans R
  clear hb x T D R hu6
  refine anyH_one 6 (by kernel_rfl) rfl (by rfl) (fun K hK => ?_); go_simp; refine hK _ _ T9.1 ?_; clear hK K
  generalize w6.alloc (.cells #[.int .i64 0, .int .i64 4, .bool false, .string ⟨p.typ.toArray⟩, .slice none 0 0, .int .i64 0, .int .i64 4, .bool false, .string ⟨p.value.toArray⟩, .slice none 0 0] 45) = w7 at T9 D9 R9 o7 ⊢
  generalize w6.heap.size = y at o7 ⊢
  have kc := Seq_any [strL p.typ, strL p.value] _ w7 o7.kids (by have h := HSM.out; simp only [SmE] at h; exact h.2.2) (by simp)
  have T := T9
  have D := D9
  have R := R9
  clear T9 D9 R9 o7
  refine anyH_one 7 (by kernel_rfl) rfl (by rfl) (fun K hK => ?_); go_simp; go_wp2_with fail
  refine Calls.mono kc ?_
  rintro e w8 ⟨⟨u8, rfl, hu8⟩, hb⟩
  have m8 := (hb.block _ (gl T.1)).trans T.1
  have x8 := (hb.block _ (gl T.2)).trans T.2
  have b8 := D.trans (hb.mono D.size)
  have t8 := (hb.block _ (gl R)).trans R
  have hz3 := D.size
  have hz4 := (gl T.2)
  clear kc hb T D R
  refine hK _ _ m8 ?_; clear hK K
  obtain ⟨E0, hE0⟩ : ∃ E, elA (.mk 0 16 true [] [strL p.typ, strL p.value]) u8 = E := ⟨_, rfl⟩
  have hE0a : E0.all (·.oneCell') = true := by
   obtain ⟨a, c, hsl⟩ := hu8.shape
   subst hsl
   rw [← hE0]; simp [elA, Value.oneCell']
  have hE0s : E0.size = 5 := by rw [← hE0]; rfl
  rw [hE0]
  have HE0 := hid hE0
  have HE0a := hid hE0a
  have HE0s := hid hE0s
  clear hE0 hE0a hE0s
  have m9 := (setRow_other w8 (w.heap.size + 2) (w.heap.size + 1) E0 (by omega)).trans m8
  have t9 := (setRow_other w8 (w.heap.size + 2) w.heap.size E0 (by omega)).trans t8
  have x9 := setRow_heap w8 (w.heap.size + 2) _ E0 _ _ x8
  have b9 := below_row b8 (g := w.heap.size + 2) (by omega) E0
  have hk : KidsAt (fun _ => True) (w8.setRow (w.heap.size + 2) E0) u8 [strL p.typ, strL p.value] := hu8.kept fun g hg hl => ⟨setRow_other w8 (w.heap.size + 2) g E0 (by omega), trivial⟩
  have HK := hid hk
  clear hk hu8
  refine anyH_one 8 (by kernel_rfl) rfl (by rfl) (fun K hK => ?_)
  refine op_storeRow 45 (.tmp 5) (.tmp 22) rfl (w.heap.size + 2) 45 _ E0 (by rfl) (by rfl) x8 (by rw [HE0s.out]; rfl) (by rw [HE0s.out]; rfl) HE0a.out ?_
  refine hK _ _ m9 ?_; clear hK K
  refine wpAnyH_done (by kernel_rfl) ?_ _
  try simp only [Exit.then]
  refine ‹∀ (a : Act) (w : World), Code.wp _ _ _ a w → _› _ _ ?_
  clear t8 m8 x8 b8
  generalize w8.setRow (w.heap.size + 2) E0 = w9 at t9 m9 x9 b9 HK ⊢
  rw [← HE0.out] at x9
  have q0 : w9.cell? ⟨w.heap.size + 1, 0, none⟩ = some (.int .i64 p.op) := (cell_of_heap m9 0).trans (by rw [← HP.out]; rfl)
  obtain ⟨E1, hE1⟩ : ∃ E, elA (.mk 0 16 true [] [strL p.typ, strL p.value]) (u8) = E := ⟨_, rfl⟩
  rw [hE1] at x9
  have hE1s : E1.size = 5 := by rw [← hE1]; rfl
  have kc := ctx_any (.mk 0 16 true [] [strL p.typ, strL p.value]) (u8) (p.op) w9 (HK.out.mono (fun _ _ _ => trivial)) HSM.out
  rw [hE1, HELX.out, show El.kids (.mk 0 16 true [] [strL p.typ, strL p.value]) = EX.kids from by rw [← HELX.out]; rfl] at kc
  have HE1 := hid hE1s
  clear hE1 hE1s
  go_wp2_with (refine wpList_loadRow rfl 45 (.tmp 5) rfl (w.heap.size + 2) 45 _ (0, 0) (by rfl) x9 _ Tryz.underlying45 rfl (by rw [HE1.out]; rfl) ?_)
  refine Calls.mono kc ?_
  rintro e w50 ⟨⟨u5, rfl, hu5⟩, hb⟩
  have t50 := (hb.block _ (gl t9)).trans t9
  have b50 := b9.trans (hb.mono b9.size)
  have hsz := (gl t9)
  clear kc hb t9 b9 m9 x9 q0
  obtain ⟨E, hE⟩ : ∃ E, elA EX u5 = E := ⟨_, rfl⟩
  have hEa : E.all (·.oneCell') = true := by
   obtain ⟨a, c, hsl⟩ := hu5.shape
   subst hsl
   rw [← hE]; simp [elA, Value.oneCell']
  have hEs : E.size = 5 := by rw [← hE]; rfl
  rw [hE]
  have bF := below_row b50 (g := w.heap.size) (Nat.le_refl _) E
  have tF := setRow_heap w50 w.heap.size _ E _ _ t50
  have uF : KidsAt (fun g => w.heap.size ≤ g) (w50.setRow w.heap.size E) u5 EX.kids := hu5.kept fun g hg hl => ⟨setRow_other w50 w.heap.size g E (by omega), by omega⟩
  have HE := hid hE
  have HEa := hid hEa
  have HEs := hid hEs
  have Tryz.underlying60 := hid uF
  clear hu5 hE hEa hEs uF b50
  go_wp2_with (refine wpList_storeRow rfl 45 (.tmp 2) (.tmp 60) rfl w.heap.size 45 _ E (by rfl) (by rfl) t50 (by rw [HEs.out]; rfl) (by rw [HEs.out]; rfl) HEa.out ?_)
  refine bodyPost_ret (v := .tuple #[.agg E, V]) ?_ rfl (by rw [HPR.out]; exact ⟨⟨u5, _, by rw [HE.out], Tryz.underlying60.out, HDR.out⟩, bF⟩)
  have hr := run_loadVar_row (P := Tryz.prog) (w50.setRow w.heap.size E) w.heap.size 45 45 E (0, 0) _ tF (show Tryz.prog.underlying 45 = _ from Tryz.underlying45) (by rfl) (by rw [HEs.out]; rfl)
  simp [results, Tryz.f119]
  show ((Sem.run Tryz.prog (loadVar 45 ⟨w.heap.size, 0, none⟩) (w50.setRow w.heap.size E)).andThen fun a w' => Result.ok (Value.tuple #[a, V]) w') = _
  rw [hr]
  simp
end Go.Proofs.YthjaiigijbjloaaGreatDoor
