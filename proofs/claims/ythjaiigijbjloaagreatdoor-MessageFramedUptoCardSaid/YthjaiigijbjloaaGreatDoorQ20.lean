/- FlM, ElE, ElF. -/
import Derived.Test.YthjaiigijbjloaaGreatDoorQ19
namespace Go.Proofs.YthjaiigijbjloaaGreatDoor
open Go.RowKit Go.Lib
def FlAt (w : World) (g o : Nat) (p : Fl) : Prop :=
 w.cell? ⟨g, o, none⟩ = some (.int .i64 p.op) ∧ w.cell? ⟨g, o + 1, none⟩ = some (.int .i64 p.n) ∧ w.cell? ⟨g, o + 2, none⟩ = some (.string ⟨p.typ.toArray⟩) ∧ w.cell? ⟨g, o + 3, none⟩ = some (.string ⟨p.value.toArray⟩) ∧
  w.cell? ⟨g, o + 4, none⟩ = some (.string ⟨p.init.toArray⟩) ∧ w.cell? ⟨g, o + 5, none⟩ = some (.string ⟨p.final.toArray⟩) ∧ ∃ u, w.cell? ⟨g, o + 6, none⟩ = some u ∧ StrsM w u p.any
def FlsM (w : World) (v : Value) (f : List Fl) : Prop :=
 ∃ a cap, v = .slice a f.length cap ∧ f.length ≤ cap ∧ (f ≠ [] → ∃ g o, a = some ⟨g, o, none⟩ ∧ ∀ (j : Nat) (p : Fl), f[j]? = some p → FlAt w g (o + j * 7) p)
theorem FlAt.below {w w' : World} {g o : Nat} {p : Fl} (h : FlAt w g o p) (hb : Below w.heap.size w w') : FlAt w' g o p := by
 obtain ⟨h0, h1, h2, h3, h4, h5, u, h6, h7⟩ := h
 exact ⟨(hb.cell (lt_of_cell h0)).trans h0, (hb.cell (lt_of_cell h1)).trans h1, (hb.cell (lt_of_cell h2)).trans h2, (hb.cell (lt_of_cell h3)).trans h3, (hb.cell (lt_of_cell h4)).trans h4, (hb.cell (lt_of_cell h5)).trans h5, u, (hb.cell (lt_of_cell h6)).trans h6, h7.below hb⟩
theorem FlsM.below {w w' : World} {v : Value} {f : List Fl} (h : FlsM w v f) (hb : Below w.heap.size w w') : FlsM w' v f := by
 obtain ⟨a, cap, hv, hc, hr⟩ := h
 refine ⟨a, cap, hv, hc, fun h0 => ?_⟩
 obtain ⟨g, o, ha, hcell⟩ := hr h0
 exact ⟨g, o, ha, fun j p hj => (hcell j p hj).below hb⟩
def dropV : Value → Value
 | .slice (some ⟨g, o, q⟩) n cap => if cap = 1 then .slice (some ⟨g, o, q⟩) 0 0 else .slice (some ⟨g, o + 7, q⟩) (n - 1) (cap - 1)
 | v => v
theorem FlsM.drop {w : World} {v : Value} {p : Fl} {f : List Fl} (h : FlsM w v (p :: f)) : FlsM w (dropV v) f := by
 obtain ⟨a, cap, rfl, hc, hr⟩ := h
 obtain ⟨g, o, rfl, hcell⟩ := hr (by simp)
 simp only [List.length_cons] at hc
 unfold dropV
 by_cases h1 : cap = 1
 ·obtain rfl : f = [] := List.length_eq_zero_iff.1 (by omega)
  simp only [h1, if_true]
  exact ⟨_, _, rfl, Nat.le_refl _, fun h => absurd rfl h⟩
 ·simp only [h1, if_false]
  refine ⟨_, _, rfl, by omega, fun _ => ⟨g, o + 7, rfl, fun j q hj => ?_⟩⟩
  have := hcell (j + 1) q (by simpa using hj)
  rw [show o + 7 + j * 7 = o + (j + 1) * 7 by omega]
  exact this
theorem FlsM.shape {w : World} {v : Value} {f : List Fl} (h : FlsM w v f) : ∃ a c, v = .slice a f.length c := by
 obtain ⟨a, cap, rfl, _, _⟩ := h; exact ⟨a, cap, rfl⟩
theorem FlsM.first {w : World} {v : Value} {p : Fl} {f : List Fl} (h : FlsM w v (p :: f)) : ∃ g o cap, v = .slice (some ⟨g, o, none⟩) (f.length + 1) cap ∧ f.length + 1 ≤ cap ∧ FlAt w g o p := by
 obtain ⟨a, cap, rfl, hc, hr⟩ := h
 obtain ⟨g, o, rfl, hcell⟩ := hr (by simp)
 have := hcell 0 p (by simp)
 exact ⟨g, o, cap, by simp, by simpa using hc, by simpa using this⟩
def blB (b : Bool) : List UInt8 := if b then [255] else [0]
set_option maxRecDepth 100000 in
set_option maxHeartbeats 4000000 in
theorem Bool_true (t : Int) (w : World) :
  Calls Tryz.prog 75 #[.int .i64 t, .bool true] w fun e w' => (∃ u, e = .returned (.agg (elA (El.mk 0 t false [255] []) u)) ∧ KidsAt (fun g => w.heap.size ≤ g) w' u []) ∧ Below w.heap.size w w' := by
 have b1 : Below w.heap.size w (w.alloc (.cells Ze 45)) := (Below.refl _ _).alloc (Nat.le_refl _) _
 have t1 : (w.alloc (.cells Ze 45)).heap[w.heap.size]? = some (.cells Ze 45 (0, 0)) := alloc_at _ _ _ rfl
 have ks := Str_any t [255] (w.alloc (.cells Ze 45))
 go_enter Tryz.func75, Tryz.ntmps75
 go_wp2_with fail
 generalize w.alloc (.cells Ze 45) = w1 at b1 t1 ks ⊢
 refine Calls.mono ks ?_
 rintro e w2 ⟨rfl, hb2⟩
 have t2 := (hb2.block _ (gl t1)).trans t1
 have b2 := b1.trans (hb2.mono b1.size)
 clear ks t1 b1 hb2
 obtain ⟨u, hu0⟩ : ∃ u, Value.slice none 0 0 = u := ⟨_, rfl⟩
 rw [hu0]
 have hu : KidsAt (fun g => w.heap.size + 1 ≤ g) w2 u [] := hu0 ▸ KidsAt.nil _ _
 clear hu0
 obtain ⟨E, hE⟩ : ∃ E, elA (El.mk 0 t false [255] []) u = E := ⟨_, rfl⟩
 have hE1 : E.all (·.oneCell') = true := by
  obtain ⟨a, c, hsl⟩ := hu.shape
  subst hsl
  rw [← hE]; simp [elA, Value.oneCell']
 have hE2 : E.size = 5 := by rw [← hE]; rfl
 rw [hE]
 have hsz := (gl t2)
 have bF := below_row b2 (g := w.heap.size) (Nat.le_refl _) E
 have tF := setRow_heap w2 w.heap.size _ E _ _ t2
 have uF : KidsAt (fun g => w.heap.size ≤ g) (w2.setRow w.heap.size E) u (El.mk 0 t false [255] []).kids := hu.kept fun g hg hl => ⟨setRow_other w2 w.heap.size g E (by omega), by omega⟩
 have HE := hid hE
 have HE1 := hid hE1
 have HE2 := hid hE2
 have UF := hid uF
 clear hu hE hE1 hE2 uF b2
 go_wp2_with (refine wpList_storeRow rfl 45 (.tmp 4) (.tmp 7) rfl w.heap.size 45 _ E (by rfl) (by rfl) t2 (by rw [HE2.out]; rfl) (by rw [HE2.out]; rfl) HE1.out ?_)
 refine bodyPost_ret (v := .agg E) ?_ rfl ⟨⟨u, by rw [← HE.out] <;> rfl, UF.out⟩, bF⟩
 have hr := run_loadVar_row (P := Tryz.prog) (w2.setRow w.heap.size E) w.heap.size 45 45 E (0, 0) _ tF (show Tryz.prog.underlying 45 = _ from Tryz.underlying45) (by rfl) (by rw [HE2.out]; rfl)
 simp [results, Tryz.f75]
 exact hr
set_option maxRecDepth 100000 in
set_option maxHeartbeats 4000000 in
theorem Bool_false (t : Int) (w : World) :
  Calls Tryz.prog 75 #[.int .i64 t, .bool false] w fun e w' => (∃ u, e = .returned (.agg (elA (El.mk 0 t false [0] []) u)) ∧ KidsAt (fun g => w.heap.size ≤ g) w' u []) ∧ Below w.heap.size w w' := by
 have b1 : Below w.heap.size w (w.alloc (.cells Ze 45)) := (Below.refl _ _).alloc (Nat.le_refl _) _
 have t1 : (w.alloc (.cells Ze 45)).heap[w.heap.size]? = some (.cells Ze 45 (0, 0)) := alloc_at _ _ _ rfl
 have ks := Str_any t [0] (w.alloc (.cells Ze 45))
 go_enter Tryz.func75, Tryz.ntmps75
 go_wp2_with fail
 generalize w.alloc (.cells Ze 45) = w1 at b1 t1 ks ⊢
 refine Calls.mono ks ?_
 rintro e w2 ⟨rfl, hb2⟩
 have t2 := (hb2.block _ (gl t1)).trans t1
 have b2 := b1.trans (hb2.mono b1.size)
 clear ks t1 b1 hb2
 obtain ⟨u, hu0⟩ : ∃ u, Value.slice none 0 0 = u := ⟨_, rfl⟩
 rw [hu0]
 have hu : KidsAt (fun g => w.heap.size + 1 ≤ g) w2 u [] := hu0 ▸ KidsAt.nil _ _
 clear hu0
 obtain ⟨E, hE⟩ : ∃ E, elA (El.mk 0 t false [0] []) u = E := ⟨_, rfl⟩
 have hE1 : E.all (·.oneCell') = true := by
  obtain ⟨a, c, hsl⟩ := hu.shape
  subst hsl
  rw [← hE]; simp [elA, Value.oneCell']
 have hE2 : E.size = 5 := by rw [← hE]; rfl
 rw [hE]
 have hsz := (gl t2)
 have bF := below_row b2 (g := w.heap.size) (Nat.le_refl _) E
 have tF := setRow_heap w2 w.heap.size _ E _ _ t2
 have uF : KidsAt (fun g => w.heap.size ≤ g) (w2.setRow w.heap.size E) u (El.mk 0 t false [0] []).kids := hu.kept fun g hg hl => ⟨setRow_other w2 w.heap.size g E (by omega), by omega⟩
 have HE := hid hE
 have HE1 := hid hE1
 have HE2 := hid hE2
 have UF := hid uF
 clear hu hE hE1 hE2 uF b2
 go_wp2_with (refine wpList_storeRow rfl 45 (.tmp 4) (.tmp 9) rfl w.heap.size 45 _ E (by rfl) (by rfl) t2 (by rw [HE2.out]; rfl) (by rw [HE2.out]; rfl) HE1.out ?_)
 refine bodyPost_ret (v := .agg E) ?_ rfl ⟨⟨u, by rw [← HE.out] <;> rfl, UF.out⟩, bF⟩
 have hr := run_loadVar_row (P := Tryz.prog) (w2.setRow w.heap.size E) w.heap.size 45 45 E (0, 0) _ tF (show Tryz.prog.underlying 45 = _ from Tryz.underlying45) (by rfl) (by rw [HE2.out]; rfl)
 simp [results, Tryz.f75]
 exact hr
theorem Bool_any (t : Int) (b : Bool) (w : World) : Calls Tryz.prog 75 #[.int .i64 t, .bool b] w fun e w' => (∃ u, e = .returned (.agg (elA (.mk 0 t false (blB b) []) u)) ∧ KidsAt (fun g => w.heap.size ≤ g) w' u []) ∧ Below w.heap.size w w' := by
 cases b
 ·exact Bool_false t w
 ·exact Bool_true t w
set_option maxRecDepth 100000 in
set_option maxHeartbeats 4000000 in
theorem unbindop_any (w : World) :
  Calls Tryz.prog 117 #[] w fun e w' => (∃ u, e = .returned (.agg (elA (El.mk 0 4 false [] []) u)) ∧ KidsAt (fun g => w.heap.size ≤ g) w' u []) ∧ Below w.heap.size w w' := by
 have b1 : Below w.heap.size w (w.alloc (.cells Ze 45)) := (Below.refl _ _).alloc (Nat.le_refl _) _
 have t1 : (w.alloc (.cells Ze 45)).heap[w.heap.size]? = some (.cells Ze 45 (0, 0)) := alloc_at _ _ _ rfl
 have ks := mstr_any [] (w.alloc (.cells Ze 45))
 go_enter Tryz.func117, Tryz.ntmps117
 go_wp2_with fail
 generalize w.alloc (.cells Ze 45) = w1 at b1 t1 ks ⊢
 refine Calls.mono ks ?_
 rintro e w2 ⟨rfl, hb2⟩
 have t2 := (hb2.block _ (gl t1)).trans t1
 have b2 := b1.trans (hb2.mono b1.size)
 clear ks t1 b1 hb2
 obtain ⟨u, hu0⟩ : ∃ u, Value.slice none 0 0 = u := ⟨_, rfl⟩
 rw [hu0]
 have hu : KidsAt (fun g => w.heap.size + 1 ≤ g) w2 u [] := hu0 ▸ KidsAt.nil _ _
 clear hu0
 obtain ⟨E, hE⟩ : ∃ E, elA (El.mk 0 4 false [] []) u = E := ⟨_, rfl⟩
 have hE1 : E.all (·.oneCell') = true := by
  obtain ⟨a, c, hsl⟩ := hu.shape
  subst hsl
  rw [← hE]; simp [elA, Value.oneCell']
 have hE2 : E.size = 5 := by rw [← hE]; rfl
 rw [hE]
 have hsz := (gl t2)
 have bF := below_row b2 (g := w.heap.size) (Nat.le_refl _) E
 have tF := setRow_heap w2 w.heap.size _ E _ _ t2
 have uF : KidsAt (fun g => w.heap.size ≤ g) (w2.setRow w.heap.size E) u (El.mk 0 4 false [] []).kids := hu.kept fun g hg hl => ⟨setRow_other w2 w.heap.size g E (by omega), by omega⟩
 have HE := hid hE
 have HE1 := hid hE1
 have HE2 := hid hE2
 have UF := hid uF
 clear hu hE hE1 hE2 uF b2
 go_wp2_with (refine wpList_storeRow rfl 45 (.tmp 0) (.tmp 1) rfl w.heap.size 45 _ E (by rfl) (by rfl) t2 (by rw [HE2.out]; rfl) (by rw [HE2.out]; rfl) HE1.out ?_)
 refine bodyPost_ret (v := .agg E) ?_ rfl ⟨⟨u, by rw [← HE.out] <;> rfl, UF.out⟩, bF⟩
 have hr := run_loadVar_row (P := Tryz.prog) (w2.setRow w.heap.size E) w.heap.size 45 45 E (0, 0) _ tF (show Tryz.prog.underlying 45 = _ from Tryz.underlying45) (by rfl) (by rw [HE2.out]; rfl)
 simp [results, Tryz.f117]
 exact hr
set_option maxRecDepth 100000 in
set_option maxHeartbeats 4000000 in
theorem abandonop_any (b n : Nat) (A : Array Value) (w : World) (hb : w.heap[b]? = some (.cells A 28 (0, 0))) (h23 : A[23]? = some (.int .i64 (n : Int))) (hn : n ≤ 2147483647) :
  Calls Tryz.prog 125 #[.pointer (some ⟨b, 0, none⟩)] w fun e w' => (∃ u, e = .returned (.agg (elA (El.mk 0 2 false (sgB n) []) u)) ∧ KidsAt (fun g => w.heap.size ≤ g) w' u []) ∧ Below w.heap.size w w' := by
 have b1 : Below w.heap.size w (w.alloc (.cells Ze 45)) := (Below.refl _ _).alloc (Nat.le_refl _) _
 have t1 : (w.alloc (.cells Ze 45)).heap[w.heap.size]? = some (.cells Ze 45 (0, 0)) := alloc_at _ _ _ rfl
 have m1 := (b1.block _ (gl hb)).trans hb
 have q2 := (cell_of_heap m1 23).trans h23
 have ks := Int_any 2 n hn (w.alloc (.cells Ze 45))
 clear hb h23 m1
 go_enter Tryz.func125, Tryz.ntmps125
 go_wp2_with fail
 clear q2
 generalize w.alloc (.cells Ze 45) = w1 at b1 t1 ks ⊢
 refine Calls.mono ks ?_
 rintro e w2 ⟨rfl, hb2⟩
 have t2 := (hb2.block _ (gl t1)).trans t1
 have b2 := b1.trans (hb2.mono b1.size)
 clear ks t1 b1 hb2
 obtain ⟨u, hu0⟩ : ∃ u, Value.slice none 0 0 = u := ⟨_, rfl⟩
 rw [hu0]
 have hu : KidsAt (fun g => w.heap.size + 1 ≤ g) w2 u [] := hu0 ▸ KidsAt.nil _ _
 clear hu0
 obtain ⟨E, hE⟩ : ∃ E, elA (El.mk 0 2 false (sgB n) []) u = E := ⟨_, rfl⟩
 have hE1 : E.all (·.oneCell') = true := by
  obtain ⟨a, c, hsl⟩ := hu.shape
  subst hsl
  rw [← hE]; simp [elA, Value.oneCell']
 have hE2 : E.size = 5 := by rw [← hE]; rfl
 rw [hE]
 have hsz := (gl t2)
 have bF := below_row b2 (g := w.heap.size) (Nat.le_refl _) E
 have tF := setRow_heap w2 w.heap.size _ E _ _ t2
 have uF : KidsAt (fun g => w.heap.size ≤ g) (w2.setRow w.heap.size E) u (El.mk 0 2 false (sgB n) []).kids := hu.kept fun g hg hl => ⟨setRow_other w2 w.heap.size g E (by omega), by omega⟩
 have HE := hid hE
 have HE1 := hid hE1
 have HE2 := hid hE2
 have UF := hid uF
 clear hu hE hE1 hE2 uF b2
 go_wp2_with (refine wpList_storeRow rfl 45 (.tmp 1) (.tmp 4) rfl w.heap.size 45 _ E (by rfl) (by rfl) t2 (by rw [HE2.out]; rfl) (by rw [HE2.out]; rfl) HE1.out ?_)
 refine bodyPost_ret (v := .agg E) ?_ rfl ⟨⟨u, by rw [← HE.out] <;> rfl, UF.out⟩, bF⟩
 have hr := run_loadVar_row (P := Tryz.prog) (w2.setRow w.heap.size E) w.heap.size 45 45 E (0, 0) _ tF (show Tryz.prog.underlying 45 = _ from Tryz.underlying45) (by rfl) (by rw [HE2.out]; rfl)
 simp [results, Tryz.f125]
 exact hr
set_option maxRecDepth 100000 in
set_option maxHeartbeats 4000000 in
theorem extop_none (b : Nat) (A : Array Value) (oid : List UInt8) (w : World) (h0 : w.heap[b]? = some (.cells A 28 (0, 0))) (h21 : A[21]? = some (.string ⟨oid.toArray⟩)) (h22 : A[22]? = some (.bool false)) (ho : oid.length ≤ 1000000000) :
  Calls Tryz.prog 126 #[.pointer (some ⟨b, 0, none⟩)] w fun e w' => (∃ u, e = .returned (.agg (elA (.mk 0 16 true [] [.mk 2 0 false oid []]) u)) ∧ KidsAt (fun g => w.heap.size ≤ g) w' u [.mk 2 0 false oid []]) ∧ Below w.heap.size w w' := by
 have b1 : Below w.heap.size w (w.alloc (.cells Ze 45)) := (Below.refl _ _).alloc (Nat.le_refl _) _
 have t1 : (w.alloc (.cells Ze 45)).heap[w.heap.size]? = some (.cells Ze 45 (0, 0)) := alloc_at _ _ _ rfl
 have m1 := (b1.block _ (gl h0)).trans h0
 have G21 := hid h21
 have G22 := hid h22
 clear h0 h21 h22
 go_enter Tryz.func126, Tryz.ntmps126
 go_upto_region 1 with fail
 generalize w.alloc (.cells Ze 45) = w1 at b1 t1 m1 ⊢
 have q := (cell_of_heap m1 21).trans G21.out
 have kc := mstr_any oid w1
 go_wp2_with fail
 refine Calls.mono kc ?_
 rintro e w2 ⟨rfl, hb⟩
 clear kc q
 have t2 := (hb.block _ (gl t1)).trans t1
 have m2 := (hb.block _ (gl m1)).trans m1
 have b2 := b1.trans (hb.mono b1.size)
 clear hb t1 m1 b1
 have kc := ctx_any (.mk 0 4 false oid []) (.slice none 0 0) 0 w2 (KidsAt.nil _ _) (by simp [SmE, SmL]; exact ho)
 go_wp2_with fail
 refine Calls.mono kc ?_
 rintro e w3 ⟨⟨u3, rfl, hu3⟩, hb⟩
 obtain ⟨a3, c3, rfl⟩ := hu3.empty
 clear kc hu3
 have t3 := (hb.block _ (gl t2)).trans t2
 have m3 := (hb.block _ (gl m2)).trans m2
 have b3 := b2.trans (hb.mono b2.size)
 clear hb t2 m2 b2
 simp only [elA, El.cls, El.tag, El.cons, El.bytes]
 have hb : Below w3.heap.size w3 (w3.alloc (.cells #[.int .i64 2, .int .i64 0, .bool false, .string ⟨oid.toArray⟩, .slice a3 0 c3] 45)) := (Below.refl _ _).alloc (Nat.le_refl _) _
 have x4 : (w3.alloc (.cells #[.int .i64 2, .int .i64 0, .bool false, .string ⟨oid.toArray⟩, .slice a3 0 c3] 45)).heap[w3.heap.size]? = some (.cells #[.int .i64 2, .int .i64 0, .bool false, .string ⟨oid.toArray⟩, .slice a3 0 c3] 45 (0, 0)) := alloc_at _ _ _ rfl
 have z4 : w.heap.size + 1 ≤ w3.heap.size := (gl t3)
 have o4 : OwnK (w.heap.size + 1) (w3.alloc (.cells #[.int .i64 2, .int .i64 0, .bool false, .string ⟨oid.toArray⟩, .slice a3 0 c3] 45)) (.slice (some ⟨w3.heap.size, 0, none⟩) 1 1) [.mk 2 0 false oid []] :=
  OwnK.flat (l := [.mk 2 0 false oid []]) (us := [.slice a3 0 c3]) x4 (by simp [flatE, El.cls, El.tag, El.cons, El.bytes]) rfl z4 (by simp) (fun j e u q1 q2 => by
   have h3 : j = 0 := by have h9 := (List.getElem?_eq_some_iff.1 q1).1; simp at h9; omega
   subst h3
   simp at q1 q2
   subst q1
   subst q2
   exact KidsAt.no _ _ _ _)
 have t4 := (hb.block _ (gl t3)).trans t3
 have m4 := (hb.block _ (gl m3)).trans m3
 have b4 := b3.trans (hb.mono b3.size)
 clear hb t3 m3 b3 x4 z4
 go_upto_region 2 with fail
 generalize w3.alloc (.cells #[.int .i64 2, .int .i64 0, .bool false, .string ⟨oid.toArray⟩, .slice a3 0 c3] 45) = w4 at t4 m4 b4 o4 ⊢
 generalize w3.heap.size = x3 at o4 ⊢
 have q := (cell_of_heap m4 22).trans G22.out
 have kc := Seq_any [.mk 2 0 false oid []] _ w4 o4.kids (by simp [SmE, SmL]; exact ho) (by simp)
 clear o4
 go_wp2_with fail
 refine Calls.mono kc ?_
 rintro e w5 ⟨⟨u, rfl, hu⟩, hb⟩
 have z := (gl t4)
 clear kc q
 have t5 := (hb.block _ (gl t4)).trans t4
 have m5 := (hb.block _ (gl m4)).trans m4
 have b5 := b4.trans (hb.mono b4.size)
 clear hb t4 m4 b4
 obtain ⟨E, hE⟩ : ∃ E, elA (El.mk 0 16 true [] [.mk 2 0 false oid []]) u = E := ⟨_, rfl⟩
 have hE1 : E.all (·.oneCell') = true := by
  obtain ⟨a, c, hsl⟩ := hu.shape
  subst hsl
  rw [← hE]; simp [elA, Value.oneCell']
 have hE2 : E.size = 5 := by rw [← hE]; rfl
 rw [hE]
 have hsz := (gl t5)
 have bF := below_row b5 (g := w.heap.size) (Nat.le_refl _) E
 have tF := setRow_heap w5 w.heap.size _ E _ _ t5
 have uF : KidsAt (fun g => w.heap.size ≤ g) (w5.setRow w.heap.size E) u (El.mk 0 16 true [] [.mk 2 0 false oid []]).kids := hu.kept fun g hg hl => ⟨setRow_other w5 w.heap.size g E (by omega), by omega⟩
 have HE := hid hE
 have HE1 := hid hE1
 have HE2 := hid hE2
 have UF := hid uF
 clear hu hE hE1 hE2 uF b5
 go_wp2_with (refine wpList_storeRow rfl 45 (.tmp 1) (.tmp 18) rfl w.heap.size 45 _ E (by rfl) (by rfl) t5 (by rw [HE2.out]; rfl) (by rw [HE2.out]; rfl) HE1.out ?_)
 refine bodyPost_ret (v := .agg E) ?_ rfl ⟨⟨u, by rw [← HE.out] <;> rfl, UF.out⟩, bF⟩
 have hr := run_loadVar_row (P := Tryz.prog) (w5.setRow w.heap.size E) w.heap.size 45 45 E (0, 0) _ tF (show Tryz.prog.underlying 45 = _ from Tryz.underlying45) (by rfl) (by rw [HE2.out]; rfl)
 simp [results, Tryz.f126]
 exact hr
set_option maxRecDepth 100000 in
set_option maxHeartbeats 4000000 in
theorem extop_some (b : Nat) (A : Array Value) (oid val : List UInt8) (w : World) (h0 : w.heap[b]? = some (.cells A 28 (0, 0))) (h21 : A[21]? = some (.string ⟨oid.toArray⟩)) (h22 : A[22]? = some (.bool true)) (h20 : A[20]? = some (.string ⟨val.toArray⟩)) (ho : oid.length ≤ 1000000000) (hv : val.length ≤ 1000000000) :
  Calls Tryz.prog 126 #[.pointer (some ⟨b, 0, none⟩)] w fun e w' => (∃ u, e = .returned (.agg (elA (.mk 0 16 true [] [.mk 2 0 false oid [], .mk 2 1 false val []]) u)) ∧ KidsAt (fun g => w.heap.size ≤ g) w' u [.mk 2 0 false oid [], .mk 2 1 false val []]) ∧ Below w.heap.size w w' := by
 have b1 : Below w.heap.size w (w.alloc (.cells Ze 45)) := (Below.refl _ _).alloc (Nat.le_refl _) _
 have t1 : (w.alloc (.cells Ze 45)).heap[w.heap.size]? = some (.cells Ze 45 (0, 0)) := alloc_at _ _ _ rfl
 have m1 := (b1.block _ (gl h0)).trans h0
 have G21 := hid h21
 have G22 := hid h22
 have G20 := hid h20
 clear h0 h21 h22 h20
 go_enter Tryz.func126, Tryz.ntmps126
 go_upto_region 1 with fail
 generalize w.alloc (.cells Ze 45) = w1 at b1 t1 m1 ⊢
 have q := (cell_of_heap m1 21).trans G21.out
 have kc := mstr_any oid w1
 go_wp2_with fail
 refine Calls.mono kc ?_
 rintro e w2 ⟨rfl, hb⟩
 clear kc q
 have t2 := (hb.block _ (gl t1)).trans t1
 have m2 := (hb.block _ (gl m1)).trans m1
 have b2 := b1.trans (hb.mono b1.size)
 clear hb t1 m1 b1
 have kc := ctx_any (.mk 0 4 false oid []) (.slice none 0 0) 0 w2 (KidsAt.nil _ _) (by simp [SmE, SmL]; exact ho)
 go_wp2_with fail
 refine Calls.mono kc ?_
 rintro e w3 ⟨⟨u3, rfl, hu3⟩, hb⟩
 obtain ⟨a3, c3, rfl⟩ := hu3.empty
 clear kc hu3
 have t3 := (hb.block _ (gl t2)).trans t2
 have m3 := (hb.block _ (gl m2)).trans m2
 have b3 := b2.trans (hb.mono b2.size)
 clear hb t2 m2 b2
 simp only [elA, El.cls, El.tag, El.cons, El.bytes]
 have hb : Below w3.heap.size w3 (w3.alloc (.cells #[.int .i64 2, .int .i64 0, .bool false, .string ⟨oid.toArray⟩, .slice a3 0 c3] 45)) := (Below.refl _ _).alloc (Nat.le_refl _) _
 have x4 : (w3.alloc (.cells #[.int .i64 2, .int .i64 0, .bool false, .string ⟨oid.toArray⟩, .slice a3 0 c3] 45)).heap[w3.heap.size]? = some (.cells #[.int .i64 2, .int .i64 0, .bool false, .string ⟨oid.toArray⟩, .slice a3 0 c3] 45 (0, 0)) := alloc_at _ _ _ rfl
 have z4 : w.heap.size + 1 ≤ w3.heap.size := (gl t3)
 have o4 : OwnK (w.heap.size + 1) (w3.alloc (.cells #[.int .i64 2, .int .i64 0, .bool false, .string ⟨oid.toArray⟩, .slice a3 0 c3] 45)) (.slice (some ⟨w3.heap.size, 0, none⟩) 1 1) [.mk 2 0 false oid []] :=
  OwnK.flat (l := [.mk 2 0 false oid []]) (us := [.slice a3 0 c3]) x4 (by simp [flatE, El.cls, El.tag, El.cons, El.bytes]) rfl z4 (by simp) (fun j e u q1 q2 => by
   have h3 : j = 0 := by have h9 := (List.getElem?_eq_some_iff.1 q1).1; simp at h9; omega
   subst h3
   simp at q1 q2
   subst q1
   subst q2
   exact KidsAt.no _ _ _ _)
 have t4 := (hb.block _ (gl t3)).trans t3
 have m4 := (hb.block _ (gl m3)).trans m3
 have b4 := b3.trans (hb.mono b3.size)
 clear hb t3 m3 b3 x4 z4
 go_upto_region 2 with fail
 generalize w3.alloc (.cells #[.int .i64 2, .int .i64 0, .bool false, .string ⟨oid.toArray⟩, .slice a3 0 c3] 45) = w4 at t4 m4 b4 o4 ⊢
 generalize w3.heap.size = x3 at o4 ⊢
 have q := (cell_of_heap m4 22).trans G22.out
 go_upto_region 3 with fail
 clear q
 have q := (cell_of_heap m4 20).trans G20.out
 have kc := mstr_any val w4
 go_wp2_with fail
 refine Calls.mono kc ?_
 rintro e w5 ⟨rfl, hb⟩
 clear kc q
 have t5 := (hb.block _ (gl t4)).trans t4
 have b5 := b4.trans (hb.mono b4.size)
 have o5 := o4.below hb
 clear hb t4 b4 o4
 have kc := ctx_any (.mk 0 4 false val []) (.slice none 0 0) 1 w5 (KidsAt.nil _ _) (by simp [SmE, SmL]; exact hv)
 go_wp2_with fail
 refine Calls.mono kc ?_
 rintro e w6 ⟨⟨u6, rfl, hu6⟩, hb⟩
 obtain ⟨a6, c6, rfl⟩ := hu6.empty
 clear kc hu6
 have t6 := (hb.block _ (gl t5)).trans t5
 have b6 := b5.trans (hb.mono b5.size)
 have o6 := o5.below hb
 clear hb t5 b5 o5
 simp only [elA, El.cls, El.tag, El.cons, El.bytes]
 have hb : Below w6.heap.size w6 (w6.alloc (.cells #[.int .i64 2, .int .i64 1, .bool false, .string ⟨val.toArray⟩, .slice a6 0 c6] 45)) := (Below.refl _ _).alloc (Nat.le_refl _) _
 have x7 : (w6.alloc (.cells #[.int .i64 2, .int .i64 1, .bool false, .string ⟨val.toArray⟩, .slice a6 0 c6] 45)).heap[w6.heap.size]? = some (.cells (elA (.mk 2 1 false val []) (.slice a6 0 c6)) 45 (0, 0)) := alloc_at _ _ _ rfl
 have t7 := (hb.block _ (gl t6)).trans t6
 have b7 := b6.trans (hb.mono b6.size)
 have o7 := o6.below hb
 clear hb t6 b6 o6
 have hs7 := b7.size
 have z7 := (gl t7)
 have O7 := hid o7
 have X7 := hid x7
 have T7 := hid t7
 have B7 := hid b7
 clear o7 x7 t7 b7
 go_wp2_with (at_builtin; refine wpList_append_el rfl (.tmp 10) (.tmp 15) rfl (w.heap.size + 1) (.slice (some ⟨x3, 0, none⟩) 1 1) [.mk 2 0 false oid []] rfl O7.out (.mk 2 1 false val []) a6 0 c6 w6.heap.size rfl X7.out (KidsAt.no _ _ _ _) (by simp) z7 ?_; intro a8 c8 w8 o8 g8)
 have t8 := (g8.block w.heap.size z7 (fun h => by have := (O7.out.lt h.symm).1; omega)).trans T7.out
 have b8 := B7.out.grown g8 hs7 (fun b hb => by have := (O7.out.lt hb).1; omega)
 clear g8 hs7 z7 O7 X7 T7 B7
 have kc := Seq_any [.mk 2 0 false oid [], .mk 2 1 false val []] _ w8 o8.kids (by simp [SmE, SmL]; exact ⟨ho, hv⟩) (by simp)
 clear o8
 go_wp2_with fail
 refine Calls.mono kc ?_
 rintro e w9 ⟨⟨u, rfl, hu⟩, hb⟩
 have z := (gl t8)
 clear kc
 have t9 := (hb.block _ (gl t8)).trans t8
 have b9 := b8.trans (hb.mono b8.size)
 clear hb t8 b8
 obtain ⟨E, hE⟩ : ∃ E, elA (El.mk 0 16 true [] [.mk 2 0 false oid [], .mk 2 1 false val []]) u = E := ⟨_, rfl⟩
 have hE1 : E.all (·.oneCell') = true := by
  obtain ⟨a, c, hsl⟩ := hu.shape
  subst hsl
  rw [← hE]; simp [elA, Value.oneCell']
 have hE2 : E.size = 5 := by rw [← hE]; rfl
 rw [hE]
 have hsz := (gl t9)
 have bF := below_row b9 (g := w.heap.size) (Nat.le_refl _) E
 have tF := setRow_heap w9 w.heap.size _ E _ _ t9
 have uF : KidsAt (fun g => w.heap.size ≤ g) (w9.setRow w.heap.size E) u (El.mk 0 16 true [] [.mk 2 0 false oid [], .mk 2 1 false val []]).kids := hu.kept fun g hg hl => ⟨setRow_other w9 w.heap.size g E (by omega), by omega⟩
 have HE := hid hE
 have HE1 := hid hE1
 have HE2 := hid hE2
 have UF := hid uF
 clear hu hE hE1 hE2 uF b9
 go_wp2_with (refine wpList_storeRow rfl 45 (.tmp 1) (.tmp 18) rfl w.heap.size 45 _ E (by rfl) (by rfl) t9 (by rw [HE2.out]; rfl) (by rw [HE2.out]; rfl) HE1.out ?_)
 refine bodyPost_ret (v := .agg E) ?_ rfl ⟨⟨u, by rw [← HE.out] <;> rfl, UF.out⟩, bF⟩
 have hr := run_loadVar_row (P := Tryz.prog) (w9.setRow w.heap.size E) w.heap.size 45 45 E (0, 0) _ tF (show Tryz.prog.underlying 45 = _ from Tryz.underlying45) (by rfl) (by rw [HE2.out]; rfl)
 simp [results, Tryz.f126]
 exact hr
end Go.Proofs.YthjaiigijbjloaaGreatDoor
