/- BerK. -/
import Derived.Test.YthjaiigijbjloaaGreatDoorQ6
namespace Go.Proofs.YthjaiigijbjloaaGreatDoor
open Go.RowKit Go.Lib
structure BelR (R B : Nat) (w w' : World) : Prop where
 os : w'.os = w.os
 tape : w'.tape = w.tape
 output : w'.output = w.output
 size : w.heap.size ≤ w'.heap.size
 block : ∀ j, j < B → j ≠ R → w'.heap[j]? = w.heap[j]?
theorem BelR.of_below {R B : Nat} {w w' : World} (h : Below B w w') : BelR R B w w' := ⟨h.os, h.tape, h.output, h.size, fun j hj _ => h.block j hj⟩
theorem BelR.trans {R B : Nat} {a b c : World} (h : BelR R B a b) (k : BelR R B b c) : BelR R B a c :=
 ⟨k.os.trans h.os, k.tape.trans h.tape, k.output.trans h.output, Nat.le_trans h.size k.size, fun j hj hne => (k.block j hj hne).trans (h.block j hj hne)⟩
theorem BelR.mono {R B B' : Nat} {w w' : World} (h : BelR R B w w') (hB : B' ≤ B) : BelR R B' w w' := ⟨h.os, h.tape, h.output, h.size, fun j hj hne => h.block j (by omega) hne⟩
theorem BelR.below {R B : Nat} {w w' : World} (h : BelR R B w w') (hB : B ≤ R) : Below B w w' := ⟨h.os, h.tape, h.output, h.size, fun j hj => h.block j hj (by omega)⟩
theorem BelR.set {R B : Nat} {w w' : World} (h : BelR R B w w') (i : Nat) (v : Value) : BelR R B w (w'.setCell ⟨R, i, none⟩ v) :=
 ⟨h.os, h.tape, h.output, by simpa using h.size, fun j hj hne => (Below.heap_setCell w' ⟨R, i, none⟩ v j hne).trans (h.block j hj hne)⟩
set_option maxRecDepth 100000 in
theorem want_ok (w : World) : Calls Tryz.prog 136 #[.bool true] w fun e w' => e = .returned (.tuple #[]) ∧ w' = w := by
 go_enter Tryz.func136, Tryz.ntmps136
 go_wp2_with fail
 go_end0
 exact ⟨rfl, rfl⟩
set_option maxRecDepth 100000 in
set_option maxHeartbeats 2000000 in
theorem text_ok (el : El) (u : Value) (cl t : Int) (w : World) (h : KidsAt (fun _ => True) w u el.kids) (hi : isE el cl t false = true) :
  Calls Tryz.prog 137 #[.agg (elA el u), .int .i64 cl, .int .i64 t] w fun e w' => e = .returned (.string ⟨el.bytes.toArray⟩) ∧ Below w.heap.size w w' := by
 obtain ⟨a, c, hf⟩ := h.shape
 subst hf
 have b1 : Below w.heap.size w (w.alloc (.cells #[.int .i64 el.cls, .int .i64 el.tag, .bool el.cons, .string ⟨el.bytes.toArray⟩, .slice a el.kids.length c] 45)) := (Below.refl _ _).alloc (Nat.le_refl _) _
 have r1 : (w.alloc (.cells #[.int .i64 el.cls, .int .i64 el.tag, .bool el.cons, .string ⟨el.bytes.toArray⟩, .slice a el.kids.length c] 45)).heap[w.heap.size]? = some (.cells #[.int .i64 el.cls, .int .i64 el.tag, .bool el.cons, .string ⟨el.bytes.toArray⟩, .slice a el.kids.length c] 45 (0, 0)) := alloc_at _ _ _ rfl
 have k := GetStr_any el _ cl t _ (h.below b1)
 rw [hi] at k
 simp only [if_true] at k
 unfold elA at k ⊢
 clear h hi
 go_enter Tryz.func137, Tryz.ntmps137
 refine wp_seq ?_
 refine wp_region_list ?_
 refine wpList_plain rfl fun K hK => ?_; go_simp; refine hK _ _ ?_; clear hK K
 generalize w.alloc (.cells #[.int .i64 el.cls, .int .i64 el.tag, .bool el.cons, .string ⟨el.bytes.toArray⟩, .slice a el.kids.length c] 45) = w1 at b1 r1 k ⊢
 go_wp2_with (refine wpList_loadRow rfl 45 (.tmp 3) rfl w.heap.size 45 _ (0, 0) (by rfl) r1 _ Tryz.underlying45 rfl (by rfl) ?_)
 refine Calls.mono k ?_
 rintro e w2 ⟨rfl, hb2⟩
 have b2 := b1.trans (hb2.mono b1.size)
 have kw := want_ok w2
 clear k r1 hb2 b1
 go_wp2_with fail
 refine Calls.mono kw ?_
 rintro e w3 ⟨rfl, rfl⟩
 go_wp2_with fail
 go_ret
 exact ⟨rfl, b2⟩
set_option maxRecDepth 100000 in
set_option maxHeartbeats 2000000 in
theorem kids_ok (el : El) (u : Value) (cl t : Int) (w : World) (h : KidsAt (fun _ => True) w u el.kids) (hs : SmE el) (hi : isE el cl t true = true) :
  Calls Tryz.prog 99 #[.agg (elA el u), .int .i64 cl, .int .i64 t] w fun e w' => (∃ b v, e = .returned (.pointer (some ⟨b, 0, none⟩)) ∧ w.heap.size ≤ b ∧ w'.heap[b]? = some (.cells #[v] 129 (0, 0)) ∧ KidsAt (fun g => w.heap.size ≤ g ∧ g ≠ b) w' v el.kids) ∧ Below w.heap.size w w' := by
 obtain ⟨a, c, hf⟩ := h.shape
 subst hf
 have b1 : Below w.heap.size w (w.alloc (.cells #[.int .i64 el.cls, .int .i64 el.tag, .bool el.cons, .string ⟨el.bytes.toArray⟩, .slice a el.kids.length c] 45)) := (Below.refl _ _).alloc (Nat.le_refl _) _
 have r1 : (w.alloc (.cells #[.int .i64 el.cls, .int .i64 el.tag, .bool el.cons, .string ⟨el.bytes.toArray⟩, .slice a el.kids.length c] 45)).heap[w.heap.size]? = some (.cells #[.int .i64 el.cls, .int .i64 el.tag, .bool el.cons, .string ⟨el.bytes.toArray⟩, .slice a el.kids.length c] 45 (0, 0)) := alloc_at _ _ _ rfl
 have k := GetKids_any el _ cl t _ (h.below b1) hs
 rw [hi] at k
 simp only [if_true] at k
 unfold elA at k ⊢
 clear h hi
 go_enter Tryz.func99, Tryz.ntmps99
 refine wp_seq ?_
 refine wp_region_list ?_
 refine wpList_plain rfl fun K hK => ?_; go_simp; refine hK _ _ ?_; clear hK K
 generalize w.alloc (.cells #[.int .i64 el.cls, .int .i64 el.tag, .bool el.cons, .string ⟨el.bytes.toArray⟩, .slice a el.kids.length c] 45) = w1 at b1 r1 k ⊢
 go_wp2_with (refine wpList_loadRow rfl 45 (.tmp 3) rfl w.heap.size 45 _ (0, 0) (by rfl) r1 _ Tryz.underlying45 rfl (by rfl) ?_)
 refine Calls.mono k ?_
 rintro e w2 ⟨⟨v, rfl, hv⟩, hb2⟩
 obtain ⟨a2, c2, hf2⟩ := hv.shape
 subst hf2
 have hs1 := b1.size
 have b2 := b1.trans (hb2.mono b1.size)
 have kw := want_ok w2
 clear k r1 hb2 b1
 go_wp2_with fail
 refine Calls.mono kw ?_
 rintro e w3 ⟨rfl, hw⟩
 have hw' := hw.symm
 subst hw'
 clear hw
 have m3 : Below w2.heap.size w2 (w2.alloc (.cells #[.slice a2 el.kids.length c2] 129)) := (Below.refl _ _).alloc (Nat.le_refl _) _
 have r3 : (w2.alloc (.cells #[.slice a2 el.kids.length c2] 129)).heap[w2.heap.size]? = some (.cells #[.slice a2 el.kids.length c2] 129 (0, 0)) := alloc_at _ _ _ rfl
 have v3 : KidsAt (fun g => w.heap.size ≤ g ∧ g ≠ w2.heap.size) (w2.alloc (.cells #[.slice a2 el.kids.length c2] 129)) (.slice a2 el.kids.length c2) el.kids := hv.kept fun g hg hl => ⟨m3.block g hl, by omega, by omega⟩
 have b3 := b2.trans (m3.mono b2.size)
 have hs2 := b2.size
 have HV := hid v3
 clear hv v3 kw m3
 go_wp2_with fail
 go_ret
 exact ⟨⟨_, _, rfl, hs2, r3, HV.out⟩, b3⟩
set_option maxRecDepth 100000 in
set_option maxHeartbeats 2000000 in
theorem next_ok (P : Nat → Prop) (b : Nat) (v : Value) (e : El) (r : List El) (w : World) (hb : w.heap[b]? = some (.cells #[v] 129 (0, 0))) (hk : KidsAt P w v (e :: r)) (hP : ∀ g, P g → g ≠ b) (hr : r.length ≤ 1000000) :
  Calls Tryz.prog 102 #[.pointer (some ⟨b, 0, none⟩)] w fun x w' => (∃ u v', x = .returned (.agg (elA e u)) ∧ KidsAt P w' u e.kids ∧ w'.heap[b]? = some (.cells #[v'] 129 (0, 0)) ∧ KidsAt P w' v' r) ∧ BelR b w.heap.size w w' := by
 have HKK := hid hk
 obtain ⟨a, cap, rfl, hc, hk1⟩ := hk
 obtain ⟨g, o, rfl, hp, hs⟩ := hk1 (by simp)
 simp only [ElsC] at hs
 obtain ⟨p0, p1, p2, p3, u, p4, hu⟩ := hs.1.cells
 have HS := hid hs.2
 obtain ⟨au, cu, hfu⟩ := hu.shape
 subst hfu
 have hblt := (gl hb)
 have hglt := lt_of_cell p0
 have hgb := hP g hp
 simp only [List.length_cons] at hc
 have HB := hid hb
 have HU := hid hu
 have HP := hid hP
 have qb : w.cell? ⟨b, 0, none⟩ = some (.slice (some ⟨g, o, none⟩) (r.length + 1) cap) := (cell_of_heap hb 0).trans (by simp)
 have zb := Lib.frozen_of_heap hb 0
 have kw := want_ok (w.alloc (.cells Ze 45))
 have i1 : decide ((0 : Int) < (r.length : Int) + 1) = true := decide_eq_true (by omega)
 have fin : ∀ v', KidsAt P w v' r → (KidsAt P (((w.setCell ⟨b, 0, none⟩ v').alloc (.cells #[.int .i64 e.cls, .int .i64 e.tag, .bool e.cons, .string ⟨e.bytes.toArray⟩, .slice au e.kids.length cu] 45)).alloc (.cells #[.int .i64 e.cls, .int .i64 e.tag, .bool e.cons, .string ⟨e.bytes.toArray⟩, .slice au e.kids.length cu] 45)) (.slice au e.kids.length cu) e.kids ∧
   (((w.setCell ⟨b, 0, none⟩ v').alloc (.cells #[.int .i64 e.cls, .int .i64 e.tag, .bool e.cons, .string ⟨e.bytes.toArray⟩, .slice au e.kids.length cu] 45)).alloc (.cells #[.int .i64 e.cls, .int .i64 e.tag, .bool e.cons, .string ⟨e.bytes.toArray⟩, .slice au e.kids.length cu] 45)).heap[b]? = some (.cells #[v'] 129 (0, 0)) ∧ KidsAt P (((w.setCell ⟨b, 0, none⟩ v').alloc (.cells #[.int .i64 e.cls, .int .i64 e.tag, .bool e.cons, .string ⟨e.bytes.toArray⟩, .slice au e.kids.length cu] 45)).alloc (.cells #[.int .i64 e.cls, .int .i64 e.tag, .bool e.cons, .string ⟨e.bytes.toArray⟩, .slice au e.kids.length cu] 45)) v' r ∧
   BelR b w.heap.size w (((w.setCell ⟨b, 0, none⟩ v').alloc (.cells #[.int .i64 e.cls, .int .i64 e.tag, .bool e.cons, .string ⟨e.bytes.toArray⟩, .slice au e.kids.length cu] 45)).alloc (.cells #[.int .i64 e.cls, .int .i64 e.tag, .bool e.cons, .string ⟨e.bytes.toArray⟩, .slice au e.kids.length cu] 45)) ∧ (((w.setCell ⟨b, 0, none⟩ v').alloc (.cells #[.int .i64 e.cls, .int .i64 e.tag, .bool e.cons, .string ⟨e.bytes.toArray⟩, .slice au e.kids.length cu] 45)).alloc (.cells #[.int .i64 e.cls, .int .i64 e.tag, .bool e.cons, .string ⟨e.bytes.toArray⟩, .slice au e.kids.length cu] 45)).heap[w.heap.size]? = some (.cells #[.int .i64 e.cls, .int .i64 e.tag, .bool e.cons, .string ⟨e.bytes.toArray⟩, .slice au e.kids.length cu] 45 (0, 0))) := by
  intro v' hv'
  have hsz : (w.setCell ⟨b, 0, none⟩ v').heap.size = w.heap.size := by simp [World.setCell]
  have m : Below w.heap.size (w.setCell ⟨b, 0, none⟩ v') (((w.setCell ⟨b, 0, none⟩ v').alloc (.cells #[.int .i64 e.cls, .int .i64 e.tag, .bool e.cons, .string ⟨e.bytes.toArray⟩, .slice au e.kids.length cu] 45)).alloc (.cells #[.int .i64 e.cls, .int .i64 e.tag, .bool e.cons, .string ⟨e.bytes.toArray⟩, .slice au e.kids.length cu] 45)) := ((Below.refl _ _).alloc (Nat.le_of_eq hsz.symm) _).alloc (by simp [hsz]) _
  have hkept : ∀ g', P g' → g' < w.heap.size → (((w.setCell ⟨b, 0, none⟩ v').alloc (.cells #[.int .i64 e.cls, .int .i64 e.tag, .bool e.cons, .string ⟨e.bytes.toArray⟩, .slice au e.kids.length cu] 45)).alloc (.cells #[.int .i64 e.cls, .int .i64 e.tag, .bool e.cons, .string ⟨e.bytes.toArray⟩, .slice au e.kids.length cu] 45)).heap[g']? = w.heap[g']? ∧ P g' := fun g' hg' hl => ⟨(m.block g' hl).trans (Below.heap_setCell w ⟨b, 0, none⟩ v' g' (HP.out g' hg')), hg'⟩
  exact ⟨HU.out.kept hkept, (m.block b hblt).trans (setCell_at (i := 0) (u := v') HB.out), hv'.kept hkept, ((BelR.of_below (Below.refl _ _)).set 0 v').trans (BelR.of_below m),
   (alloc_old _ _ _ (by simp [hsz])).trans (alloc_at _ _ _ hsz.symm)⟩
 have FIN := hid fin
 clear hs hk1 hu hb hP fin
 by_cases hcap : cap = 1
 ·subst hcap
  obtain rfl : r = [] := List.length_eq_zero_iff.1 (by omega)
  obtain ⟨f1, f2, f3, f4, f5⟩ := FIN.out (.slice (some ⟨g, o, none⟩) 0 0) ⟨_, _, rfl, Nat.le_refl _, fun h => absurd rfl h⟩
  have G1 := hid f1
  have G2 := hid f2
  have G3 := hid f3
  have G4 := hid f4
  have G5 := hid f5
  clear f1 f2 f3 f4 f5 FIN
  go_enter Tryz.func102, Tryz.ntmps102
  go_wp2_with fail
  refine Calls.mono kw ?_
  rintro x w1 ⟨rfl, rfl⟩
  go_wp2_with fail
  refine bodyPost_ret (v := .agg #[.int .i64 e.cls, .int .i64 e.tag, .bool e.cons, .string ⟨e.bytes.toArray⟩, .slice au e.kids.length cu]) ?_ rfl ⟨⟨_, _, rfl, G1.out, G2.out, G3.out⟩, G4.out⟩
  have hr := run_loadVar_row (P := Tryz.prog) _ w.heap.size 45 45 #[.int .i64 e.cls, .int .i64 e.tag, .bool e.cons, .string ⟨e.bytes.toArray⟩, .slice au e.kids.length cu] (0, 0) _ G5.out (show Tryz.prog.underlying 45 = _ from Tryz.underlying45) (by rfl) (by rfl)
  simp [results, Tryz.f102]
  exact hr
 ·have hc1 : ¬ (cap ≤ 1) := by omega
  have hc2 : 1 ≤ cap := by omega
  obtain ⟨f1, f2, f3, f4, f5⟩ := FIN.out (.slice (some ⟨g, o + 5, none⟩) r.length (cap - 1)) ⟨_, _, rfl, by omega, fun _ => ⟨g, o + 5, rfl, hp, HS.out⟩⟩
  have G1 := hid f1
  have G2 := hid f2
  have G3 := hid f3
  have G4 := hid f4
  have G5 := hid f5
  clear f1 f2 f3 f4 f5 FIN
  go_enter Tryz.func102, Tryz.ntmps102
  go_wp2_with fail
  refine Calls.mono kw ?_
  rintro x w1 ⟨rfl, rfl⟩
  go_wp2_with fail
  refine bodyPost_ret (v := .agg #[.int .i64 e.cls, .int .i64 e.tag, .bool e.cons, .string ⟨e.bytes.toArray⟩, .slice au e.kids.length cu]) ?_ rfl ⟨⟨_, _, rfl, G1.out, G2.out, G3.out⟩, G4.out⟩
  have hr := run_loadVar_row (P := Tryz.prog) _ w.heap.size 45 45 #[.int .i64 e.cls, .int .i64 e.tag, .bool e.cons, .string ⟨e.bytes.toArray⟩, .slice au e.kids.length cu] (0, 0) _ G5.out (show Tryz.prog.underlying 45 = _ from Tryz.underlying45) (by rfl) (by rfl)
  simp [results, Tryz.f102]
  exact hr
set_option maxRecDepth 100000 in
set_option maxHeartbeats 2000000 in
theorem num_ok (P : Nat → Prop) (b : Nat) (v : Value) (t : Int) (n : Nat) (hn : n ≤ 127) (r : List El) (w : World) (hb : w.heap[b]? = some (.cells #[v] 129 (0, 0))) (hk : KidsAt P w v (.mk 0 t false [UInt8.ofNat n] [] :: r)) (hP : ∀ g, P g → g ≠ b) (hr : r.length ≤ 1000000) :
  Calls Tryz.prog 100 #[.pointer (some ⟨b, 0, none⟩), .int .i64 t] w fun x w' => (∃ v', x = .returned (.int .i64 (n : Int)) ∧ w'.heap[b]? = some (.cells #[v'] 129 (0, 0)) ∧ KidsAt P w' v' r) ∧ BelR b w.heap.size w w' := by
 have kn := next_ok P b v _ r w hb hk hP hr
 clear hk hP hr
 go_enter Tryz.func100, Tryz.ntmps100
 go_wp2_with fail
 refine Calls.mono kn ?_
 rintro x w1 ⟨⟨u, v', rfl, hu, hb1, hk1⟩, hbe⟩
 obtain ⟨a, c, hf⟩ := hu.shape
 subst hf
 have hnil : (a, c) = (a, c) := rfl
 simp only [El.kids, List.length_nil]
 have kg := GetInt_at 0 t n hn a c w1
 have kw := fun w => want_ok w
 clear kn hb hnil
 go_wp2_with fail
 refine Calls.mono kg ?_
 rintro x w2 ⟨rfl, hb2⟩
 have hb3 := (hb2.block _ (gl hb1)).trans hb1
 have hk3 := hk1.below hb2
 have hbe3 := hbe.trans (BelR.of_below (R := b) (hb2.mono hbe.size))
 have kw2 := kw w2
 have HK := hid hk3
 clear kg hb1 hk1 hbe hb2 hu kw hk3
 go_wp2_with fail
 refine Calls.mono kw2 ?_
 rintro x w3 ⟨rfl, rfl⟩
 go_wp2_with fail
 go_ret
 exact ⟨⟨v', rfl, hb3, HK.out⟩, hbe3⟩
set_option maxRecDepth 100000 in
set_option maxHeartbeats 2000000 in
theorem is_none (P : Nat → Prop) (b : Nat) (v : Value) (cl t : Int) (w : World) (hb : w.heap[b]? = some (.cells #[v] 129 (0, 0))) (hk : KidsAt P w v []) :
  Calls Tryz.prog 103 #[.pointer (some ⟨b, 0, none⟩), .int .i64 cl, .int .i64 t] w fun x w' => x = .returned (.bool false) ∧ ∃ m, w' = w.drewN m := by
 obtain ⟨a, c, hf⟩ := hk.shape
 subst hf
 simp only [List.length_nil] at hb
 have qb : w.cell? ⟨b, 0, none⟩ = some (.slice a 0 c) := (cell_of_heap hb 0).trans (by simp)
 go_enter Tryz.func103, Tryz.ntmps103
 go_wp2_with fail
 go_ret
 exact ⟨rfl, 0, rfl⟩
set_option maxRecDepth 100000 in
set_option maxHeartbeats 2000000 in
theorem ended_ok (P : Nat → Prop) (b : Nat) (v : Value) (w : World) (hb : w.heap[b]? = some (.cells #[v] 129 (0, 0))) (hk : KidsAt P w v []) :
  Calls Tryz.prog 105 #[.pointer (some ⟨b, 0, none⟩)] w fun x w' => x = .returned (.tuple #[]) ∧ ∃ m, w' = w.drewN m := by
 obtain ⟨a, c, hf⟩ := hk.shape
 subst hf
 simp only [List.length_nil] at hb
 have qb : w.cell? ⟨b, 0, none⟩ = some (.slice a 0 c) := (cell_of_heap hb 0).trans (by simp)
 have kw := want_ok w
 go_enter Tryz.func105, Tryz.ntmps105
 go_wp2_with fail
 refine Calls.mono kw ?_
 rintro x w3 ⟨rfl, rfl⟩
 go_wp2_with fail
 go_end0
 exact ⟨rfl, 0, rfl⟩
end Go.Proofs.YthjaiigijbjloaaGreatDoor
