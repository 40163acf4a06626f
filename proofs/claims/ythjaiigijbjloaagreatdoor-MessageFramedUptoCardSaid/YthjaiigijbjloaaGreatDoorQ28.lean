/- ElK0. -/
import Derived.Deep.CutRange
import Derived.Test.YthjaiigijbjloaaGreatDoorQ27
namespace Go.Proofs.YthjaiigijbjloaaGreatDoor
open Go.RowKit Go.Lib
def FiRel (w0 w : World) (P : Array Value) (k : Nat) (f : List Fl) (N : Nat) (r : List Fl) (s0 s6 s29 : Value) (wr : World) : Prop :=
 ∃ (i : Nat) (fi : List Fl) (es : List El), s29 = .int .i64 (i : Int) ∧ i ≤ N ∧ FlsM w0 s0 fi ∧ fi <:+ f ∧ iterO (wholeB k) (N - i) fi = some r ∧ OwnK (w.heap.size + 3) wr s6 es ∧ es.length = i ∧ es ++ (iterE (fltE k) (N - i) fi).1 = (iterE (fltE k) N f).1 ∧
  wr.heap[w.heap.size]? = some (.cells Ze 45 (0, 0)) ∧ wr.heap[w.heap.size + 1]? = some (.cells P 60 (0, 0)) ∧ wr.heap[w.heap.size + 2]? = some (.cells Ze 45 (0, 0)) ∧ Below w.heap.size w wr
set_option maxRecDepth 100000 in
set_option maxHeartbeats 4000000 in
theorem filtered_0 (k : Nat) (ih : ∀ (fi r : List Fl) (v : Value) (w0 w : World), Below w0.heap.size w0 w → FlsM w0 v fi → FlOk fi → fi.length ≤ 100 → wholeB k fi = some r → Calls Tryz.prog 119 #[v] w (FiP w0 w (fltE k fi).1 r)) (p : Fl) (f : List Fl) (v : Value) (w0 w : World) (h0 : Below w0.heap.size w0 w) (hv : FlsM w0 v (p :: f)) (hok : FlOk (p :: f)) (hln : f.length ≤ 100) (r : List Fl) (hn0 : 0 ≤ p.n) (hit : iterO (wholeB k) p.n.toNat f = some r) (hop : p.op = 0) :
  Calls Tryz.prog 119 #[v] w (FiP w0 w (.mk 2 0 true [] (iterE (fltE k) p.n.toNat f).1) r) := by
 unfold FiP
 have HOP := hid hop
 clear hop
 have IH := hid ih
 clear ih
 obtain ⟨N, hN⟩ : ∃ N, p.n.toNat = N := ⟨_, rfl⟩
 have hpn : p.n = (N : Int) := by omega
 rw [hN] at hit ⊢
 have HIT := hid hit
 have HPN := hid hpn
 have hNl := iterO_len (wholeB_len k) _ _ _ hit
 have hNl2 : N ≤ 100 := by omega
 have hsmi : (∀ q ∈ f, q.ok) → SmL (iterE (fltE k) N f).1 := fun hq => sm_iter (fun f r hf => ⟨fltE_of k f r hf, wholeB_suf k f r hf⟩) (sm_flt k) N f r hq hln hit
 have HSMI := hid (hsmi (fun q hq => (hok.2 q (by simp [hq])).1))
 clear hN hpn hit hn0 hNl hsmi
 obtain ⟨EX, hEX⟩ : ∃ e : El, (.mk 2 0 true [] (iterE (fltE k) N f).1 : El) = e := ⟨_, rfl⟩
 rw [hEX]
 have HEX := hid hEX
 clear hEX
 obtain ⟨PR, hPR⟩ : ∃ PR : Ending → World → Prop, PR = fun e w' => (∃ u v', e = .returned (.tuple #[.agg (elA EX u), v']) ∧ KidsAt (fun g => w.heap.size ≤ g) w' u EX.kids ∧ FlsM w0 v' r) ∧ Below w.heap.size w w' := ⟨_, rfl⟩
 rw [← hPR]
 have HPR := hid hPR
 clear hPR
 have hpo := (hok.2 p (by simp)).1
 have HPO := hid hpo
 have HOK := hid hok.tail
 have hdr := hv.drop
 obtain ⟨g, o, cap, rfl, hcap, c0, c1, c2, c3, c4, c5, u0, c6, hu⟩ := hv.first
 obtain ⟨au, cu, hus, hcu, -⟩ := id hu
 subst hus
 have HU := hid (hu.below h0)
 obtain ⟨NF, hNF⟩ : ∃ n, f.length = n := ⟨_, rfl⟩
 rw [hNF] at hcap hdr hln ⊢
 obtain ⟨V, hV⟩ : ∃ V, dropV (.slice (some ⟨g, o, none⟩) (NF + 1) cap) = V := ⟨_, rfl⟩
 rw [hV] at hdr
 have HDR := hid hdr
 have HV := hid hV
 have HNF := hid hNF
 obtain ⟨P, hP⟩ : ∃ P, p.row (.slice au p.any.length cu) = P := ⟨_, rfl⟩
 have hP1 : (#[.int .i64 p.op, .int .i64 p.n, .string ⟨p.typ.toArray⟩, .string ⟨p.value.toArray⟩, .string ⟨p.init.toArray⟩, .string ⟨p.final.toArray⟩, .slice au p.any.length cu] : Array Value) = P := hP
 have hP2 : P.size = 7 := by rw [← hP]; rfl
 have HP := hid hP
 have HP1 := hid hP1
 have HP2 := hid hP2
 have b1 : Below w.heap.size w (w.alloc (.cells Ze 45)) := (Below.refl _ _).alloc (Nat.le_refl _) _
 have t1 : (w.alloc (.cells Ze 45)).heap[w.heap.size]? = some (.cells Ze 45 (0, 0)) := alloc_at _ _ _ rfl
 have hs1 : (w.alloc (.cells Ze 45)).heap.size = w.heap.size + 1 := by simp
 have h01 := h0.trans (b1.mono h0.size)
 have q0 := (h01.cell (lt_of_cell c0)).trans c0
 have q1 := (h01.cell (lt_of_cell c1)).trans c1
 have q2 := (h01.cell (lt_of_cell c2)).trans c2
 have q3 := (h01.cell (lt_of_cell c3)).trans c3
 have q4 := (h01.cell (lt_of_cell c4)).trans c4
 have q5 := (h01.cell (lt_of_cell c5)).trans c5
 have q6 := (h01.cell (lt_of_cell c6)).trans c6
 have HS1 := hid hs1
 have H0 := hid h0
 clear hv hok hpo hdr hu hcu hNF hV hP hP1 hP2 c0 c1 c2 c3 c4 c5 c6 hs1 h01 h0
 go_enter Tryz.func119, Tryz.ntmps119
 go_upto_region 1 with fail
 generalize w.alloc (.cells Ze 45) = w1 at b1 t1 q0 q1 q2 q3 q4 q5 q6 HS1 ⊢
 go_upto_region 2 with fail
 rw [HP1.out]
 have b2 := b1.trans ((Below.refl w1.heap.size w1).alloc (Nat.le_refl _) (.cells P 60) |>.mono b1.size)
 have t2 := (alloc_old w1 (.cells P 60) w.heap.size (gl t1)).trans t1
 have m2 : (w1.alloc (.cells P 60)).heap[w.heap.size + 1]? = some (.cells P 60 (0, 0)) := alloc_at _ _ _ (by rw [HS1.out])
 have hs2 : (w1.alloc (.cells P 60)).heap.size = w.heap.size + 2 := by simp [HS1.out]
 rw [HS1.out]
 have HS2 := hid hs2
 clear q0 q1 q2 q3 q4 q5 q6 b1 t1 HS1 HP1 hs2
 generalize w1.alloc (.cells P 60) = w2 at b2 t2 m2 HS2 ⊢
 go_cut [0] from 11 to 12 (fun s0 wx => s0 = V ∧ wx = w2)
 case first =>
  by_cases hc1 : cap = 1
  ·have hVV : V = .slice (some ⟨g, o, none⟩) 0 0 := by rw [← HV.out]; simp [dropV, hc1]
   have HVV := hid hVV
   have hnf0 : NF = 0 := by omega
   subst hc1 hnf0
   clear hVV
   go_wp2_with fail
   go_meet
   exact ⟨by rw [HVV.out], rfl⟩
  ·have hVV : V = .slice (some ⟨g, o + 7, none⟩) NF (cap - 1) := by rw [← HV.out]; simp [dropV, hc1]
   have HVV := hid hVV
   have hc2 : ¬ (cap ≤ 1) := by omega
   have hc3 : 1 ≤ cap := by omega
   clear hVV
   go_wp2_with fail
   go_meet
   exact ⟨by rw [HVV.out], rfl⟩
 case rest =>
  obtain ⟨hs0, hwc⟩ := hcut
  rw [hs0, hwc]
  clear HV hs0 hwc
  have b3 := b2.trans ((Below.refl w2.heap.size w2).alloc (Nat.le_refl _) (.cells Ze 45) |>.mono b2.size)
  have t3 := (alloc_old w2 (.cells Ze 45) w.heap.size (gl t2)).trans t2
  have m3 := (alloc_old w2 (.cells Ze 45) (w.heap.size + 1) (gl m2)).trans m2
  have x3 : (w2.alloc (.cells Ze 45)).heap[w.heap.size + 2]? = some (.cells Ze 45 (0, 0)) := alloc_at _ _ _ (by rw [HS2.out])
  have hs3 : (w2.alloc (.cells Ze 45)).heap.size = w.heap.size + 3 := by simp [HS2.out]
  go_upto_region 4 with fail
  rw [HS2.out]
  have HS3 := hid hs3
  clear b2 t2 m2 HS2 hs3
  generalize w2.alloc (.cells Ze 45) = w3 at b3 t3 m3 x3 HS3 ⊢
  have q0 : w3.cell? ⟨w.heap.size + 1, 0, none⟩ = some (.int .i64 0) := (cell_of_heap m3 0).trans (by rw [← HP.out]; simp [Fl.row, HOP.out])
  have q1 : w3.cell? ⟨w.heap.size + 1, 1, none⟩ = some (.int .i64 (N : Int)) := (cell_of_heap m3 1).trans (by rw [← HP.out, ← HPN.out]; rfl)
  obtain ⟨av, cv, hvs⟩ := HDR.out.shape
  rw [HNF.out] at hvs
  have HDV := HDR.out
  rw [hvs] at HDV ⊢
  have HD := hid HDV
  clear HDV hvs HDR
  go_wp2_with fail
  go_loopw [0, 6, 7, 29] (fun s0 s6 _ s29 wr => FiRel w0 w P k f N r s0 s6 s29 wr) (fun _ _ _ i _ => N - (RowKit.intOf i).toNat)
  case atStart => exact ⟨0, f, [], rfl, Nat.zero_le _, HD.out, List.suffix_refl _, HIT.out, OwnK.nil _ _, rfl, by simp, t3, m3, x3, b3⟩
  case round =>
   clear t3 m3 x3 b3 HD HS3 q0 q1
   obtain ⟨i, fi, es, rfl, hi, hfv, hsuf, hit, ho, hel, hes, t3, m3, x3, b3⟩ := hrel
   obtain ⟨a0, d0, hfs⟩ := hfv.shape
   subst hfs
   obtain ⟨a6, c6, hos⟩ := ho.shape
   subst hos
   by_cases hiN : i < N
   ·have i1 : decide ((i : Int) < (N : Int)) = true := decide_eq_true (by omega)
    have i2 : (i : Int) < (N : Int) := by omega
    obtain ⟨m, hm⟩ : ∃ m, N - i = m + 1 := ⟨N - i - 1, by omega⟩
    have hm2 : N - (i + 1) = m := by omega
    rw [hm] at hit hes
    obtain ⟨ALL, hALL⟩ : ∃ a, (iterE (fltE k) N f).1 = a := ⟨_, rfl⟩
    rw [hALL] at hes
    have HALL := hid hALL
    clear hALL
    unfold iterO at hit
    unfold iterE at hes
    cases hr : wholeB k fi with
    | none => rw [hr] at hit; cases hit
    | some r1 =>
     rw [hr] at hit
     simp only at hit
     have hfe := fltE_of k fi r1 hr
     rw [hfe] at hes
     have hs1 := wholeB_suf k fi r1 hr
     obtain ⟨el, hel0⟩ : ∃ el, (fltE k fi).1 = el := ⟨_, rfl⟩
     rw [hel0] at hes
     have HES := hid hes
     have HI2 := hid hit
     have HS2 := hid (hs1.trans hsuf)
     have hbk := hsuf.length_le
     have n1 : Below wr.heap.size wr (wr.alloc (.cells Ze 45)) := (Below.refl _ _).alloc (Nat.le_refl _) _
     have y1 : (wr.alloc (.cells Ze 45)).heap[wr.heap.size]? = some (.cells Ze 45 (0, 0)) := alloc_at _ _ _ rfl
     have t4 := (n1.block _ (gl t3)).trans t3
     have m4 := (n1.block _ (gl m3)).trans m3
     have x4 := (n1.block _ (gl x3)).trans x3
     have b4 := b3.trans (n1.mono b3.size)
     have kc := IH.out fi r1 (.slice a0 fi.length d0) w0 (wr.alloc (.cells Ze 45)) (H0.out.trans (b4.mono H0.out.size)) hfv (HOK.out.suf hsuf) (by have := HNF.out; omega) hr
     rw [hel0] at kc
     unfold FiP at kc
     have hzk : wr.heap.size < (wr.alloc (.cells Ze 45)).heap.size := by simp
     have hzx := (gl x3)
     have hsz0 := b3.size
     have hlt : ∀ g, (Value.slice a6 es.length c6).ownBlock = some g → w.heap.size + 3 ≤ g ∧ g < wr.heap.size := fun g hg => ho.lt hg
     have HO := hid ho
     have HLT := hid hlt
     have N1 := hid n1
     have HEL := hid hel
     clear n1 hr hit hes hfe hs1 hsuf hfv ho x3 m3 t3 b3 hlt hel
     obtain ⟨ec, et, ek, eb, eks⟩ := el
     obtain ⟨Y, hY⟩ : ∃ Y, wr.heap.size = Y := ⟨_, rfl⟩
     have HY := hid hY
     rw [hY] at y1 hzk hzx hsz0
     clear hY
     go_upto_region 13 with fail
     rw [HY.out]
     generalize wr.alloc (.cells Ze 45) = w4 at y1 t4 m4 x4 b4 kc hzk N1 ⊢
     obtain ⟨L6, hL6⟩ : ∃ n, es.length = n := ⟨_, rfl⟩
     rw [hL6] at HLT HEL ⊢
     have HL6 := hid hL6
     clear hL6
     go_wp2_with fail
     refine Calls.mono kc ?_
     rintro e w5 ⟨⟨u, v', rfl, hu5, hv5⟩, hb⟩
     obtain ⟨a5, c5, hus5⟩ := hu5.shape
     subst hus5
     obtain ⟨a9, c9, hvs9⟩ := hv5.shape
     subst hvs9
     have hkeep : ∀ j, j < Y → w5.heap[j]? = wr.heap[j]? := fun j hj => by
      have h1 := N1.out
      rw [HY.out] at h1
      exact (hb.block j (by omega)).trans (h1.block j hj)
     have y5 := (hb.block _ (gl y1)).trans y1
     have t5 := (hb.block _ (gl t4)).trans t4
     have m5 := (hb.block _ (gl m4)).trans m4
     have x5 := (hb.block _ (gl x4)).trans x4
     have b5 := b4.trans (hb.mono b4.size)
     have hz45 := hb.size
     clear kc hb y1 t4 m4 x4 b4
     simp only [elA, El.cls, El.tag, El.cons, El.bytes, El.kids] at hu5 ⊢
     obtain ⟨E, hE⟩ : ∃ E : Array Value, #[.int .i64 ec, .int .i64 et, .bool ek, .string ⟨eb.toArray⟩, .slice a5 eks.length c5] = E := ⟨_, rfl⟩
     have hEa : E.all (·.oneCell') = true := by rw [← hE]; simp [Value.oneCell']
     have hEs : E.size = 5 := by rw [← hE]; rfl
     rw [hE]
     have hz5 := (gl y5)
     have k6 : ∀ j, j < Y → (w5.setRow Y E).heap[j]? = wr.heap[j]? := fun j hj => (setRow_other w5 Y j E (by omega)).trans (hkeep j hj)
     have t6 := (setRow_other w5 Y w.heap.size E (by omega)).trans t5
     have m6 := (setRow_other w5 Y (w.heap.size + 1) E (by omega)).trans m5
     have x6 := (setRow_other w5 Y (w.heap.size + 2) E (by omega)).trans x5
     have y6 := setRow_heap w5 Y _ E _ _ y5
     have b6 := below_row b5 (g := Y) (by omega) E
     have hu6 : KidsAt (fun g => Y < g) (w5.setRow Y E) (.slice a5 eks.length c5) eks := hu5.kept fun g hg hl => ⟨setRow_other w5 Y g E (by omega), by omega⟩
     have HE := hid hE
     have HEa := hid hEa
     have HEs := hid hEs
     have Y5 := hid y5
     have K6 := hid k6
     clear hE hEa hEs y5 t5 m5 x5 b5 hu5 hkeep k6
     go_upto_region 14 with (refine wpList_storeRow rfl 45 (.tmp 7) (.tmp 34) rfl Y 45 _ E (by rfl) (by rfl) Y5.out (by rw [HEs.out]; rfl) (by rw [HEs.out]; rfl) HEa.out ?_)
     generalize w5.setRow Y E = w6 at t6 m6 x6 y6 b6 hu6 K6 ⊢
     clear Y5
     have o6 : OwnK (w.heap.size + 3) w6 (.slice a6 L6 c6) es := by rw [← HL6.out]; exact HO.out.keep (fun j hj => K6.out j (by rw [← HY.out]; exact hj))
     rw [← HE.out] at y6 ⊢
     have hb : Below w6.heap.size w6 (w6.alloc (.cells #[.int .i64 ec, .int .i64 et, .bool ek, .string ⟨eb.toArray⟩, .slice a5 eks.length c5] 45)) := (Below.refl _ _).alloc (Nat.le_refl _) _
     have xa : (w6.alloc (.cells #[.int .i64 ec, .int .i64 et, .bool ek, .string ⟨eb.toArray⟩, .slice a5 eks.length c5] 45)).heap[w6.heap.size]? = some (.cells (elA (.mk ec et ek eb eks) (.slice a5 eks.length c5)) 45 (0, 0)) := alloc_at _ _ _ rfl
     have t7 := (hb.block _ (gl t6)).trans t6
     have m7 := (hb.block _ (gl m6)).trans m6
     have x7 := (hb.block _ (gl x6)).trans x6
     have b7 := b6.trans (hb.mono b6.size)
     have o7 := o6.below hb
     have hu7 : KidsAt (fun g => (Value.slice a6 L6 c6).ownBlock ≠ some g) (w6.alloc (.cells #[.int .i64 ec, .int .i64 et, .bool ek, .string ⟨eb.toArray⟩, .slice a5 eks.length c5] 45)) (.slice a5 eks.length c5) eks := (hu6.below hb).mono (fun g hg hl h => by have := (HLT.out g h).2; rw [HY.out] at this; omega)
     have hs7 := b7.size
     have z1 := (gl t7)
     have z2 := (gl m7)
     have z3 := (gl x7)
     have T7 := hid t7
     have M7 := hid m7
     have X7 := hid x7
     have B7 := hid b7
     have O7 := hid o7
     have XA := hid xa
     have HU7 := hid hu7
     have Y6 := hid y6
     clear hb t6 m6 x6 b6 o6 hu6 t7 m7 x7 b7 o7 xa hu7 y6
     go_wp2_with (first | (refine wpList_loadRow rfl 45 (.tmp 7) rfl Y 45 _ (0, 0) (by rfl) Y6.out _ Tryz.underlying45 rfl (by rfl) ?_) | (at_builtin; refine wpList_append_el rfl (.tmp 36) (.tmp 38) rfl (w.heap.size + 3) (.slice a6 L6 c6) es (by rfl) O7.out (.mk ec et ek eb eks) a5 eks.length c5 w6.heap.size rfl XA.out HU7.out (by rw [HL6.out]; have := HEL.out; omega) (by omega) ?_; intro a10 c10 w10 o10 hg; have m10 := (hg.block (w.heap.size + 1) z2 (fun h => by have := (O7.out.lt h.symm).1; omega)).trans M7.out; have t10 := (hg.block w.heap.size z1 (fun h => by have := (O7.out.lt h.symm).1; omega)).trans T7.out; have x10 := (hg.block (w.heap.size + 2) z3 (fun h => by have := (O7.out.lt h.symm).1; omega)).trans X7.out; have b10 := B7.out.grown hg hs7 (fun b hb => by have := (O7.out.lt hb).1; omega); clear hg hs7 z1 z2 z3 XA T7 M7 X7 B7 O7 HU7 Y6))
     rw [HL6.out] at o10 ⊢
     refine ⟨⟨i + 1, r1, es ++ [.mk ec et ek eb eks], by go_num, by omega, hv5, HS2.out, by rw [hm2]; exact HI2.out, o10, by have h1 := HEL.out; have h2 := HL6.out; simp; omega, by rw [hm2, HALL.out, ← HES.out]; simp, t10, m10, x10, b10⟩, ?_⟩
     simp [RowKit.intOf]; omega
   ·obtain rfl : i = N := by omega
    rw [Nat.sub_self] at hit hes
    simp only [iterO, Option.some.injEq] at hit
    simp only [iterE, List.append_nil] at hes
    subst hit hes
    have hELX : El.mk 2 (0) true [] (iterE (fltE k) i f).1 = EX := HEX.out
    obtain ⟨es, hes⟩ : ∃ es, (iterE (fltE k) i f).1 = es := ⟨_, rfl⟩
    have hsl := HSMI.out
    rw [hes] at ho hELX hsl hel ⊢
    have HELX : Hid (El.mk 2 (0) (El.cons (.mk 0 16 true [] es)) (El.bytes (.mk 0 16 true [] es)) (El.kids (.mk 0 16 true [] es)) = EX) := hid hELX
    have hsm : SmE (.mk 0 16 true [] es) := by simp only [SmE]; exact ⟨by simp, by omega, hsl⟩
    have HSM := hid hsm
    have HRV := hid hfv
    obtain ⟨L6, hL6⟩ : ∃ n, es.length = n := ⟨_, rfl⟩
    have kc := Seq_any es _ wr ho.kids hsl (by omega)
    rw [hL6] at kc ⊢
    have hz3 := (gl x3)
    have hz4 := b3.size
    clear hELX hsm hsl hes ho hfv hsuf hL6
    obtain ⟨w5, hw5⟩ : ∃ w5, wr = w5 := ⟨_, rfl⟩
    rw [hw5] at t3 m3 x3 b3 kc hz3 hz4 ⊢
    clear hw5
    go_wp2_with fail
    refine Calls.mono kc ?_
    rintro e w8 ⟨⟨u8, rfl, hu8⟩, hb⟩
    have m8 := (hb.block _ (gl m3)).trans m3
    have x8 := (hb.block _ (gl x3)).trans x3
    have b8 := b3.trans (hb.mono b3.size)
    have t8 := (hb.block _ (gl t3)).trans t3
    clear kc hb t3 m3 x3 b3
    obtain ⟨E0, hE0⟩ : ∃ E, elA (.mk 0 16 true [] es) u8 = E := ⟨_, rfl⟩
    have hE0a : E0.all (·.oneCell') = true := by
     obtain ⟨a, c, hsl⟩ := hu8.shape
     subst hsl
     rw [← hE0]; simp [elA, Value.oneCell']
    have hE0s : E0.size = 5 := by rw [← hE0]; rfl
    rw [hE0]
    have HE0 := hid hE0
    have HE0a := hid hE0a
    have HE0s := hid hE0s
    clear hE0 hE0a hE0s
    have m9 := (setRow_other w8 (w.heap.size + 2) (w.heap.size + 1) E0 (by omega)).trans m8
    have t9 := (setRow_other w8 (w.heap.size + 2) w.heap.size E0 (by omega)).trans t8
    have x9 := setRow_heap w8 (w.heap.size + 2) _ E0 _ _ x8
    have b9 := below_row b8 (g := w.heap.size + 2) (by omega) E0
    have hk : KidsAt (fun _ => True) (w8.setRow (w.heap.size + 2) E0) u8 es := hu8.kept fun g hg hl => ⟨setRow_other w8 (w.heap.size + 2) g E0 (by omega), trivial⟩
    have HK := hid hk
    have X8 := hid x8
    clear hk hu8 x8
    go_upto_region 21 with (refine wpList_storeRow rfl 45 (.tmp 5) (.tmp 42) rfl (w.heap.size + 2) 45 _ E0 (by rfl) (by rfl) X8.out (by rw [HE0s.out]; rfl) (by rw [HE0s.out]; rfl) HE0a.out ?_)
    clear t8 m8 b8 X8
    generalize w8.setRow (w.heap.size + 2) E0 = w9 at t9 m9 x9 b9 HK ⊢
    rw [← HE0.out] at x9
    have q0 : w9.cell? ⟨w.heap.size + 1, 0, none⟩ = some (.int .i64 0) := (cell_of_heap m9 0).trans (by rw [← HP.out]; simp [Fl.row, HOP.out])
    obtain ⟨E1, hE1⟩ : ∃ E, elA (.mk 0 16 true [] es) (u8) = E := ⟨_, rfl⟩
    rw [hE1] at x9
    have hE1s : E1.size = 5 := by rw [← hE1]; rfl
    have kc := ctx_any (.mk 0 16 true [] es) (u8) (0) w9 (HK.out.mono (fun _ _ _ => trivial)) HSM.out
    rw [hE1, HELX.out, show El.kids (.mk 0 16 true [] es) = EX.kids from by rw [← HELX.out]; rfl] at kc
    have HE1 := hid hE1s
    clear hE1 hE1s
    go_wp2_with (refine wpList_loadRow rfl 45 (.tmp 5) rfl (w.heap.size + 2) 45 _ (0, 0) (by rfl) x9 _ Tryz.underlying45 rfl (by rw [HE1.out]; rfl) ?_)
    refine Calls.mono kc ?_
    rintro e w50 ⟨⟨u5, rfl, hu5⟩, hb⟩
    have t50 := (hb.block _ (gl t9)).trans t9
    have b50 := b9.trans (hb.mono b9.size)
    have hsz := (gl t9)
    clear kc hb t9 b9 m9 x9 q0
    obtain ⟨E, hE⟩ : ∃ E, elA EX u5 = E := ⟨_, rfl⟩
    have hEa : E.all (·.oneCell') = true := by
     obtain ⟨a, c, hsl⟩ := hu5.shape
     subst hsl
     rw [← hE]; simp [elA, Value.oneCell']
    have hEs : E.size = 5 := by rw [← hE]; rfl
    rw [hE]
    have bF := below_row b50 (g := w.heap.size) (Nat.le_refl _) E
    have tF := setRow_heap w50 w.heap.size _ E _ _ t50
    have uF : KidsAt (fun g => w.heap.size ≤ g) (w50.setRow w.heap.size E) u5 EX.kids := hu5.kept fun g hg hl => ⟨setRow_other w50 w.heap.size g E (by omega), by omega⟩
    have HE := hid hE
    have HEa := hid hEa
    have HEs := hid hEs
    have Tryz.underlying60 := hid uF
    clear hu5 hE hEa hEs uF b50
    go_wp2_with (refine wpList_storeRow rfl 45 (.tmp 2) (.tmp 60) rfl w.heap.size 45 _ E (by rfl) (by rfl) t50 (by rw [HEs.out]; rfl) (by rw [HEs.out]; rfl) HEa.out ?_)
    refine bodyPost_ret (v := .tuple #[.agg E, .slice a0 fi.length d0]) ?_ rfl (by rw [HPR.out]; exact ⟨⟨u5, _, by rw [HE.out], Tryz.underlying60.out, HRV.out⟩, bF⟩)
    have hr := run_loadVar_row (P := Tryz.prog) (w50.setRow w.heap.size E) w.heap.size 45 45 E (0, 0) _ tF (show Tryz.prog.underlying 45 = _ from Tryz.underlying45) (by rfl) (by rw [HEs.out]; rfl)
    simp [results, Tryz.f119]
    show ((Sem.run Tryz.prog (loadVar 45 ⟨w.heap.size, 0, none⟩) (w50.setRow w.heap.size E)).andThen fun a w' => Result.ok (Value.tuple #[a, .slice a0 fi.length d0]) w') = _
    rw [hr]
    simp
end Go.Proofs.YthjaiigijbjloaaGreatDoor
