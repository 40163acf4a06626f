/- ElI. -/
import Derived.Deep.CutRange
import Derived.Test.YthjaiigijbjloaaGreatDoorQ21
namespace Go.Proofs.YthjaiigijbjloaaGreatDoor
open Go.RowKit Go.Lib
def Fl.row (p : Fl) (u : Value) : Array Value := #[.int .i64 p.op, .int .i64 p.n, .string ⟨p.typ.toArray⟩, .string ⟨p.value.toArray⟩, .string ⟨p.init.toArray⟩, .string ⟨p.final.toArray⟩, u]
def initE (p : Fl) : List El := if p.init = [] then [] else [.mk 2 0 false p.init []]
def anyE (l : List (List UInt8)) : List El := l.map (fun s => El.mk 2 1 false s [])
def PiRel (w : World) (PR : Array Value) (L : List El) (v : Value) (wr : World) : Prop :=
 OwnK (w.heap.size + 2) wr v L ∧ wr.heap[w.heap.size]? = some (.cells PR 60 (0, 0)) ∧ wr.heap[w.heap.size + 1]? = some (.cells Ze 45 (0, 0)) ∧ Below w.heap.size w wr
def PlRel (w : World) (p : Fl) (PR : Array Value) (v i : Value) (wr : World) : Prop :=
 ∃ k : Nat, i = .int .i64 (k : Int) ∧ k ≤ p.any.length ∧ PiRel w PR (initE p ++ anyE (p.any.take k)) v wr
set_option maxRecDepth 100000 in
set_option maxHeartbeats 4000000 in
theorem pieces_any (p : Fl) (u0 : Value) (w : World) (hu0 : StrsM w u0 p.any) (hok : p.ok) :
  Calls Tryz.prog 161 #[.agg (p.row u0)] w fun e w' => (∃ u, e = .returned (.agg (elA (.mk 0 16 true [] (piecesE p)) u)) ∧ KidsAt (fun g => w.heap.size ≤ g) w' u (piecesE p)) ∧ Below w.heap.size w w' := by
 have hsm := sm_pieces p hok
 have HSM := hid hsm
 have hln := len_pieces p hok
 have HLN := hid hln
 obtain ⟨PR, hPR⟩ : ∃ R, p.row u0 = R := ⟨_, rfl⟩
 rw [hPR]
 have HPR := hid hPR
 clear hPR
 have b1 : Below w.heap.size w ((w.alloc (.cells PR 60)).alloc (.cells Ze 45)) := ((Below.refl _ _).alloc (Nat.le_refl _) _).alloc (by simp) _
 have m1 : ((w.alloc (.cells PR 60)).alloc (.cells Ze 45)).heap[w.heap.size]? = some (.cells PR 60 (0, 0)) := (alloc_old _ _ _ (by simp)).trans (alloc_at _ _ _ rfl)
 have t1 : ((w.alloc (.cells PR 60)).alloc (.cells Ze 45)).heap[w.heap.size + 1]? = some (.cells Ze 45 (0, 0)) := alloc_at _ _ _ (by simp)
 obtain ⟨av, cap, hu, hcap, hcells⟩ := hu0
 have HU := hid hu
 clear hu
 obtain ⟨h1, h2, h3, h4, h5, h6⟩ := hok
 have HC := hid hcells
 have H6 := hid h6
 clear hsm hln hcells h6
 have H3 := hid h3
 have H4 := hid h4
 clear h1 h2 h3 h4
 go_enter Tryz.func161, Tryz.ntmps161
 go_upto_region 1 with fail
 generalize ((w.alloc (.cells PR 60)).alloc (.cells Ze 45)) = w1 at b1 m1 t1 ⊢
 go_upto_region 2 with fail
 have q4 : w1.cell? ⟨w.heap.size, 4, none⟩ = some (.string ⟨p.init.toArray⟩) := (cell_of_heap m1 4).trans (by rw [← HPR.out]; rfl)
 go_upto_if 8 with fail
 obtain ⟨B, hB⟩ : ∃ B, p.init.isEmpty = B := ⟨_, rfl⟩
 rw [hB]
 have HB := hid hB
 clear hB
 go_cut [3] from 9 to 15 (fun s3 wx => PiRel w PR (initE p) s3 wx)
 case first =>
  have o1 : OwnK (w.heap.size + 2) w1 (.slice none 0 0) [] := OwnK.nil _ _
  rcases B.eq_false_or_eq_true with hb | hb
  ·subst hb
   have hl : initE p = [] := by have h := HB.out; simp at h; simp [initE, h]
   go_wp2_with fail
   go_meet
   exact ⟨by rw [hl]; exact o1, m1, t1, b1⟩
  ·subst hb
   have hl : initE p = [.mk 2 0 false p.init []] := by have h := HB.out; simp at h; simp [initE, h]
   have kc := mstr_any p.init w1
   go_wp2_with fail
   refine Calls.mono kc ?_
   rintro e w2 ⟨rfl, hb⟩
   have t2 := (hb.block _ (gl t1)).trans t1
   have m2 := (hb.block _ (gl m1)).trans m1
   have b2 := b1.trans (hb.mono b1.size)
   have o2 := o1.below hb
   clear hb t1 m1 b1 o1 kc
   have kc := ctx_any (.mk 0 4 false p.init []) (.slice none 0 0) 0 w2 (KidsAt.nil _ _) (by simp [SmE, SmL]; exact (by have := H3.out; omega))
   go_wp2_with fail
   refine Calls.mono kc ?_
   rintro e w3 ⟨⟨u, rfl, hu⟩, hb⟩
   obtain ⟨ae, ce, rfl⟩ := hu.empty
   have t3 := (hb.block _ (gl t2)).trans t2
   have m3 := (hb.block _ (gl m2)).trans m2
   have b3 := b2.trans (hb.mono b2.size)
   have o3 := o2.below hb
   clear hb t2 m2 b2 o2 kc hu
   simp only [elA, El.cls, El.tag, El.cons, El.bytes]
   have hb : Below w3.heap.size w3 (w3.alloc (.cells #[.int .i64 2, .int .i64 0, .bool false, .string ⟨p.init.toArray⟩, .slice ae 0 ce] 45)) := (Below.refl _ _).alloc (Nat.le_refl _) _
   have x : (w3.alloc (.cells #[.int .i64 2, .int .i64 0, .bool false, .string ⟨p.init.toArray⟩, .slice ae 0 ce] 45)).heap[w3.heap.size]? = some (.cells (elA (.mk 2 0 false p.init []) (.slice ae 0 ce)) 45 (0, 0)) := alloc_at _ _ _ rfl
   have t4 := (hb.block _ (gl t3)).trans t3
   have m4 := (hb.block _ (gl m3)).trans m3
   have b4 := b3.trans (hb.mono b3.size)
   have o4 := o3.below hb
   clear hb t3 m3 b3 o3
   have hs := b4.size
   have z := (gl t4)
   have zm := (gl m4)
   have T9 := hid t4
   have M9 := hid m4
   have B9 := hid b4
   have O9 := hid o4
   have X := hid x
   clear x t4 m4 b4 o4
   go_wp2_with (at_builtin; refine wpList_append_el rfl (.tmp 9) (.tmp 14) rfl (w.heap.size + 2) (.slice none 0 0) ([]) (by rfl) O9.out (.mk 2 0 false p.init []) ae 0 ce w3.heap.size rfl X.out (KidsAt.no _ _ _ _) (by first | (simp; done) | (have := HLEN.out; omega)) (by omega) ?_; intro a10 c10 w5 o5 hg; have m5 := (hg.block w.heap.size zm (fun h => by have := (O9.out.lt h.symm).1; omega)).trans M9.out; have t5 := (hg.block (w.heap.size + 1) z (fun h => by have := (O9.out.lt h.symm).1; omega)).trans T9.out; have b5 := B9.out.grown hg hs (fun b hb => by have := (O9.out.lt hb).1; omega); clear hg hs z zm X T9 M9 B9 O9)
   go_wp2_with fail
   go_meet
   exact ⟨by rw [hl]; exact o5, m5, t5, b5⟩
 case rest =>
  obtain ⟨o1, m1, t1, b1⟩ := hcut
  obtain ⟨a3, c3, rfl⟩ := o1.shape
  have hL0 : (initE p).length ≤ 1 := by unfold initE; split <;> simp
  have q6 : wc.cell? ⟨w.heap.size, 6, none⟩ = some (.slice av p.any.length cap) := (cell_of_heap m1 6).trans (by rw [← HPR.out, ← HU.out]; rfl)
  go_wp2_with fail
  go_loopw [3, 5, 19] (fun v _ i wr => PlRel w p PR v i wr) (fun _ _ i _ => p.any.length - (RowKit.intOf i).toNat)
  case atStart => exact ⟨0, rfl, Nat.zero_le _, by simpa [anyE] using o1, m1, t1, b1⟩
  case round =>
   clear o1 m1 t1 b1 q6
   obtain ⟨k, rfl, hk, o1, m1, t1, b1⟩ := hrel
   obtain ⟨a4, c4, rfl⟩ := o1.shape
   have hlen : (initE p ++ anyE (p.any.take k)).length = (initE p).length + k := by simp [anyE]; omega
   rw [hlen] at o1 ⊢
   by_cases hkl : k < p.any.length
   ·obtain ⟨s, hs⟩ : ∃ s, p.any[k]? = some s := ⟨_, by simp [hkl]; rfl⟩
    have hmem : s ∈ p.any := List.mem_of_getElem? hs
    have hsl := H6.out s hmem
    obtain ⟨g, o, ha, hc⟩ := HC.out (by intro h0; rw [h0] at hkl; simp at hkl)
    subst ha
    have q0 := (b1.cell (lt_of_cell (hc k s hs))).trans (hc k s hs)
    have i1 : decide ((k : Int) < (p.any.length : Int)) = true := decide_eq_true (by omega)
    have i2 : (k : Int) < (p.any.length : Int) := by omega
    have hts : initE p ++ anyE (p.any.take (k + 1)) = initE p ++ anyE (p.any.take k) ++ [.mk 2 1 false s []] := by rw [List.take_add_one, hs]; simp [anyE]
    have HTS := hid hts
    have HLEN := hid hlen
    clear hc hs hmem hts hlen
    obtain ⟨LL, hLL⟩ : ∃ LL, initE p ++ anyE (p.any.take k) = LL := ⟨_, rfl⟩
    rw [hLL] at o1 HTS HLEN
    clear hLL
    obtain ⟨t2, m2, b2, o2⟩ : _ ∧ _ ∧ _ ∧ _ := ⟨t1, m1, b1, o1⟩
    clear t1 m1 b1 o1
    obtain ⟨w2, hw2⟩ : ∃ w2, wr = w2 := ⟨_, rfl⟩
    rw [hw2] at t2 m2 b2 o2 q0 ⊢
    clear hw2
    have kc := mstr_any s w2
    go_wp2_with fail
    refine Calls.mono kc ?_
    rintro e w3 ⟨rfl, hb⟩
    have t3 := (hb.block _ (gl t2)).trans t2
    have m3 := (hb.block _ (gl m2)).trans m2
    have b3 := b2.trans (hb.mono b2.size)
    have o3 := o2.below hb
    clear hb t2 m2 b2 o2 kc
    have kc := ctx_any (.mk 0 4 false s []) (.slice none 0 0) 1 w3 (KidsAt.nil _ _) (by simp [SmE, SmL]; exact (by omega))
    go_wp2_with fail
    refine Calls.mono kc ?_
    rintro e w4 ⟨⟨u, rfl, hu⟩, hb⟩
    obtain ⟨ae, ce, rfl⟩ := hu.empty
    have t4 := (hb.block _ (gl t3)).trans t3
    have m4 := (hb.block _ (gl m3)).trans m3
    have b4 := b3.trans (hb.mono b3.size)
    have o4 := o3.below hb
    clear hb t3 m3 b3 o3 kc hu
    simp only [elA, El.cls, El.tag, El.cons, El.bytes]
    have hb : Below w4.heap.size w4 (w4.alloc (.cells #[.int .i64 2, .int .i64 1, .bool false, .string ⟨s.toArray⟩, .slice ae 0 ce] 45)) := (Below.refl _ _).alloc (Nat.le_refl _) _
    have x : (w4.alloc (.cells #[.int .i64 2, .int .i64 1, .bool false, .string ⟨s.toArray⟩, .slice ae 0 ce] 45)).heap[w4.heap.size]? = some (.cells (elA (.mk 2 1 false s []) (.slice ae 0 ce)) 45 (0, 0)) := alloc_at _ _ _ rfl
    have t5 := (hb.block _ (gl t4)).trans t4
    have m5 := (hb.block _ (gl m4)).trans m4
    have b5 := b4.trans (hb.mono b4.size)
    have o5 := o4.below hb
    clear hb t4 m4 b4 o4
    have hs := b5.size
    have z := (gl t5)
    have zm := (gl m5)
    have T9 := hid t5
    have M9 := hid m5
    have B9 := hid b5
    have O9 := hid o5
    have X := hid x
    clear x t5 m5 b5 o5
    go_wp2_with (at_builtin; refine wpList_append_el rfl (.tmp 23) (.tmp 27) rfl (w.heap.size + 2) (.slice a4 ((initE p).length + k) c4) (LL) (by rfl) O9.out (.mk 2 1 false s []) ae 0 ce w4.heap.size rfl X.out (KidsAt.no _ _ _ _) (by first | (simp; done) | (have := HLEN.out; omega)) (by omega) ?_; intro a10 c10 w6 o6 hg; have m6 := (hg.block w.heap.size zm (fun h => by have := (O9.out.lt h.symm).1; omega)).trans M9.out; have t6 := (hg.block (w.heap.size + 1) z (fun h => by have := (O9.out.lt h.symm).1; omega)).trans T9.out; have b6 := B9.out.grown hg hs (fun b hb => by have := (O9.out.lt hb).1; omega); clear hg hs z zm X T9 M9 B9 O9)
    rw [HLEN.out] at o6 ⊢
    go_wp2_with fail
    exact ⟨⟨k + 1, by go_num, by omega, by rw [HTS.out]; exact o6, m6, t6, b6⟩, by simp [RowKit.intOf]; omega⟩
   ·obtain rfl : k = p.any.length := by omega
    rw [List.take_of_length_le (Nat.le_refl _)] at o1 hlen
    have q5 : wr.cell? ⟨w.heap.size, 5, none⟩ = some (.string ⟨p.final.toArray⟩) := (cell_of_heap m1 5).trans (by rw [← HPR.out]; rfl)
    have z := (gl t1)
    go_upto_if 32 with fail
    obtain ⟨B2, hB2⟩ : ∃ B, p.final.isEmpty = B := ⟨_, rfl⟩
    rw [hB2]
    have HB2 := hid hB2
    clear hB2
    rcases B2.eq_false_or_eq_true with hb | hb
    ·subst hb
     have hl : piecesE p = initE p ++ anyE p.any := by have h := HB2.out; simp at h; simp [piecesE, initE, anyE, h]
     have kc := Seq_any (piecesE p) _ wr (by rw [hl]; exact o1.kids) HSM.out HLN.out
     clear o1
     go_wp2_with fail
     refine Calls.mono kc ?_
     rintro e w5 ⟨⟨u, rfl, hu⟩, hb⟩
     have t5 := (hb.block _ (gl t1)).trans t1
     have b5 := b1.trans (hb.mono b1.size)
     clear kc hb t1 b1 q5 m1
     obtain ⟨E, hE⟩ : ∃ E, elA (El.mk 0 16 true [] (piecesE p)) u = E := ⟨_, rfl⟩
     have hE1 : E.all (·.oneCell') = true := by
      obtain ⟨a, c, hsl⟩ := hu.shape
      subst hsl
      rw [← hE]; simp [elA, Value.oneCell']
     have hE2 : E.size = 5 := by rw [← hE]; rfl
     rw [hE]
     have hsz := (gl t5)
     have bF := below_row b5 (g := w.heap.size + 1) (by omega) E
     have tF := setRow_heap w5 (w.heap.size + 1) _ E _ _ t5
     have uF : KidsAt (fun g => w.heap.size ≤ g) (w5.setRow (w.heap.size + 1) E) u (El.mk 0 16 true [] (piecesE p)).kids := hu.kept fun g hg hl => ⟨setRow_other w5 (w.heap.size + 1) g E (by omega), by omega⟩
     have HE := hid hE
     have HE1 := hid hE1
     have HE2 := hid hE2
     have UF := hid uF
     clear hu hE hE1 hE2 uF b5
     go_wp2_with (refine wpList_storeRow rfl 45 (.tmp 2) (.tmp 41) rfl (w.heap.size + 1) 45 _ E (by rfl) (by rfl) t5 (by rw [HE2.out]; rfl) (by rw [HE2.out]; rfl) HE1.out ?_)
     refine bodyPost_ret (v := .agg E) ?_ rfl ⟨⟨u, by rw [← HE.out] <;> rfl, UF.out⟩, bF⟩
     have hr := run_loadVar_row (P := Tryz.prog) (w5.setRow (w.heap.size + 1) E) (w.heap.size + 1) 45 45 E (0, 0) _ tF (show Tryz.prog.underlying 45 = _ from Tryz.underlying45) (by rfl) (by rw [HE2.out]; rfl)
     simp [results, Tryz.f161]
     exact hr
    ·subst hb
     have hl : piecesE p = initE p ++ anyE p.any ++ [.mk 2 2 false p.final []] := by have h := HB2.out; simp at h; simp [piecesE, initE, anyE, h]
     have HL := hid hl
     obtain ⟨LL, hLL⟩ : ∃ LL, initE p ++ anyE p.any = LL := ⟨_, rfl⟩
     rw [hLL] at o1 hlen HL
     clear hl
     have HLEN := hid hlen
     clear hlen hLL
     obtain ⟨w1, hw1⟩ : ∃ w1, wr = w1 := ⟨_, rfl⟩
     rw [hw1] at t1 m1 b1 o1 q5 ⊢
     clear hw1
     have kc := mstr_any p.final w1
     go_wp2_with fail
     refine Calls.mono kc ?_
     rintro e w2 ⟨rfl, hb⟩
     have t2 := (hb.block _ (gl t1)).trans t1
     have m2 := (hb.block _ (gl m1)).trans m1
     have b2 := b1.trans (hb.mono b1.size)
     have o2 := o1.below hb
     clear hb t1 m1 b1 o1 kc
     have kc := ctx_any (.mk 0 4 false p.final []) (.slice none 0 0) 2 w2 (KidsAt.nil _ _) (by simp [SmE, SmL]; exact (by have := H4.out; omega))
     go_wp2_with fail
     refine Calls.mono kc ?_
     rintro e w3 ⟨⟨u, rfl, hu⟩, hb⟩
     obtain ⟨ae, ce, rfl⟩ := hu.empty
     have t3 := (hb.block _ (gl t2)).trans t2
     have m3 := (hb.block _ (gl m2)).trans m2
     have b3 := b2.trans (hb.mono b2.size)
     have o3 := o2.below hb
     clear hb t2 m2 b2 o2 kc hu
     simp only [elA, El.cls, El.tag, El.cons, El.bytes]
     have hb : Below w3.heap.size w3 (w3.alloc (.cells #[.int .i64 2, .int .i64 2, .bool false, .string ⟨p.final.toArray⟩, .slice ae 0 ce] 45)) := (Below.refl _ _).alloc (Nat.le_refl _) _
     have x : (w3.alloc (.cells #[.int .i64 2, .int .i64 2, .bool false, .string ⟨p.final.toArray⟩, .slice ae 0 ce] 45)).heap[w3.heap.size]? = some (.cells (elA (.mk 2 2 false p.final []) (.slice ae 0 ce)) 45 (0, 0)) := alloc_at _ _ _ rfl
     have t4 := (hb.block _ (gl t3)).trans t3
     have m4 := (hb.block _ (gl m3)).trans m3
     have b4 := b3.trans (hb.mono b3.size)
     have o4 := o3.below hb
     clear hb t3 m3 b3 o3
     have hs := b4.size
     have z := (gl t4)
     have zm := (gl m4)
     have T9 := hid t4
     have M9 := hid m4
     have B9 := hid b4
     have O9 := hid o4
     have X := hid x
     clear x t4 m4 b4 o4
     go_wp2_with (at_builtin; refine wpList_append_el rfl (.tmp 33) (.tmp 38) rfl (w.heap.size + 2) (.slice a4 ((initE p).length + p.any.length) c4) (LL) (by rfl) O9.out (.mk 2 2 false p.final []) ae 0 ce w3.heap.size rfl X.out (KidsAt.no _ _ _ _) (by first | (simp; done) | (have := HLEN.out; omega)) (by omega) ?_; intro a10 c10 w5 o5 hg; have m5 := (hg.block w.heap.size zm (fun h => by have := (O9.out.lt h.symm).1; omega)).trans M9.out; have t5 := (hg.block (w.heap.size + 1) z (fun h => by have := (O9.out.lt h.symm).1; omega)).trans T9.out; have b5 := B9.out.grown hg hs (fun b hb => by have := (O9.out.lt hb).1; omega); clear hg hs z zm X T9 M9 B9 O9)
     have kc := Seq_any (piecesE p) _ w5 (by rw [HL.out]; exact o5.kids) HSM.out HLN.out
     clear o5
     go_wp2_with fail
     refine Calls.mono kc ?_
     rintro e w6 ⟨⟨u, rfl, hu⟩, hb⟩
     have z := (gl t5)
     have t6 := (hb.block _ (gl t5)).trans t5
     have b6 := b5.trans (hb.mono b5.size)
     clear kc hb t5 b5 m5
     obtain ⟨E, hE⟩ : ∃ E, elA (El.mk 0 16 true [] (piecesE p)) u = E := ⟨_, rfl⟩
     have hE1 : E.all (·.oneCell') = true := by
      obtain ⟨a, c, hsl⟩ := hu.shape
      subst hsl
      rw [← hE]; simp [elA, Value.oneCell']
     have hE2 : E.size = 5 := by rw [← hE]; rfl
     rw [hE]
     have hsz := (gl t6)
     have bF := below_row b6 (g := w.heap.size + 1) (by omega) E
     have tF := setRow_heap w6 (w.heap.size + 1) _ E _ _ t6
     have uF : KidsAt (fun g => w.heap.size ≤ g) (w6.setRow (w.heap.size + 1) E) u (El.mk 0 16 true [] (piecesE p)).kids := hu.kept fun g hg hl => ⟨setRow_other w6 (w.heap.size + 1) g E (by omega), by omega⟩
     have HE := hid hE
     have HE1 := hid hE1
     have HE2 := hid hE2
     have UF := hid uF
     clear hu hE hE1 hE2 uF b6
     go_wp2_with (refine wpList_storeRow rfl 45 (.tmp 2) (.tmp 41) rfl (w.heap.size + 1) 45 _ E (by rfl) (by rfl) t6 (by rw [HE2.out]; rfl) (by rw [HE2.out]; rfl) HE1.out ?_)
     refine bodyPost_ret (v := .agg E) ?_ rfl ⟨⟨u, by rw [← HE.out] <;> rfl, UF.out⟩, bF⟩
     have hr := run_loadVar_row (P := Tryz.prog) (w6.setRow (w.heap.size + 1) E) (w.heap.size + 1) 45 45 E (0, 0) _ tF (show Tryz.prog.underlying 45 = _ from Tryz.underlying45) (by rfl) (by rw [HE2.out]; rfl)
     simp [results, Tryz.f161]
     exact hr
end Go.Proofs.YthjaiigijbjloaaGreatDoor
