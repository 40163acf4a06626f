/- MsO. -/
import Derived.Deep.Cut
import Derived.Test.YthjaiigijbjloaaGreatDoorQ8
namespace Go.Proofs.YthjaiigijbjloaaGreatDoor
open Go.RowKit Go.Lib
theorem kids_flat {P : Nat → Prop} {w : World} {g : Nat} {l : List El} {us : List Value} {cs : Array Value} {t : TypeId} {fr : Nat × Nat} (hb : w.heap[g]? = some (.cells cs t fr)) (hcs : cs.toList = flatE l us) (hl : us.length = l.length)
  (hk : ∀ (j : Nat) (e : El) (u : Value), l[j]? = some e → us[j]? = some u → KidsAt P w u e.kids) (hP : P g) : KidsAt P w (.slice (some ⟨g, 0, none⟩) l.length l.length) l := by
 refine ⟨_, _, rfl, Nat.le_refl _, fun _ => ⟨g, 0, rfl, hP, ElsC.of l g 0 fun j e hj => ?_⟩⟩
 have hjl : j < l.length := (List.getElem?_eq_some_iff.1 hj).1
 obtain ⟨u, hu⟩ : ∃ u, us[j]? = some u := ⟨us[j]'(by omega), by simp [hl, hjl]⟩
 obtain ⟨q0, q1, q2, q3, q4⟩ := flatE_get l us j e u hj hu
 have hc : ∀ i, w.cell? ⟨g, i, none⟩ = (flatE l us)[i]? := fun i => (cell_of_heap hb i).trans (by rw [← hcs]; simp)
 rw [Nat.zero_add]
 exact ElC.mk ((hc _).trans q0) ((hc _).trans q1) ((hc _).trans q2) ((hc _).trans q3) ((hc _).trans q4) (hk j e u hj hu)
theorem KidsAt.empty {P : Nat → Prop} {w : World} {v : Value} (h : KidsAt P w v []) : ∃ a c, v = .slice a 0 c := by
 obtain ⟨a, c, rfl⟩ := h.shape
 exact ⟨a, c, rfl⟩
theorem KidsAt.no (P : Nat → Prop) (w : World) (a : Option Addr) (c : Nat) : KidsAt P w (.slice a 0 c) [] := ⟨a, c, rfl, Nat.zero_le _, fun h => absurd rfl h⟩
set_option maxRecDepth 100000 in
set_option maxHeartbeats 4000000 in
theorem bindop_any (b v : Nat) (A : Array Value) (dn secret : List UInt8) (w : World) (hb : w.heap[b]? = some (.cells A 28 (0, 0))) (hv : v ≤ 127) (h2 : A[2]? = some (.string ⟨dn.toArray⟩)) (h3 : A[3]? = some (.int .i64 (v : Int))) (h4 : A[4]? = some (.bool false)) (h5 : A[5]? = some (.string ⟨secret.toArray⟩)) (hd : dn.length ≤ 1000000000) (hs : secret.length ≤ 1000000000) :
  Calls Tryz.prog 116 #[.pointer (some ⟨b, 0, none⟩)] w fun e w' => (∃ u, e = .returned (.agg (elA (.mk 0 16 true [] [.mk 0 2 false [UInt8.ofNat v] [], .mk 0 4 false dn [], .mk 2 0 false secret []]) u)) ∧ KidsAt (fun g => w.heap.size ≤ g) w' u [.mk 0 2 false [UInt8.ofNat v] [], .mk 0 4 false dn [], .mk 2 0 false secret []]) ∧ Below w.heap.size w w' := by
 obtain ⟨PR, hPR⟩ : ∃ PR : Ending → World → Prop, PR = fun e w' => (∃ u, e = .returned (.agg (elA (.mk 0 16 true [] [.mk 0 2 false [UInt8.ofNat v] [], .mk 0 4 false dn [], .mk 2 0 false secret []]) u)) ∧ KidsAt (fun g => w.heap.size ≤ g) w' u [.mk 0 2 false [UInt8.ofNat v] [], .mk 0 4 false dn [], .mk 2 0 false secret []]) ∧ Below w.heap.size w w' := ⟨_, rfl⟩
 rw [← hPR]
 have HPR := hid hPR
 have G2 := hid h2
 have G3 := hid h3
 have G4 := hid h4
 have G5 := hid h5
 clear hPR h2 h3 h4 h5
 have hbl := (gl hb)
 have b1 : Below w.heap.size w (w.alloc (.cells Ze 45)) := (Below.refl _ _).alloc (Nat.le_refl _) _
 have t1 : (w.alloc (.cells Ze 45)).heap[w.heap.size]? = some (.cells Ze 45 (0, 0)) := alloc_at _ _ _ rfl
 have m1 := (b1.block _ hbl).trans hb
 clear hb
 go_enter Tryz.func116, Tryz.ntmps116
 go_upto_region 1 with fail
 generalize w.alloc (.cells Ze 45) = w1 at b1 t1 m1 ⊢
 have q5 : w1.cell? ⟨b, 5, none⟩ = some (.string ⟨secret.toArray⟩) := (cell_of_heap m1 5).trans G5.out
 have k1 := mstr_any secret w1
 go_wp2_with fail
 refine Calls.mono k1 ?_
 rintro e w2 ⟨rfl, hb2⟩
 have m2 := (hb2.block _ (gl m1)).trans m1
 have t2 := (hb2.block _ (gl t1)).trans t1
 have b2 := b1.trans (hb2.mono b1.size)
 clear k1 hb2 q5 b1 t1 m1
 have k2 := ctx_any (.mk 0 4 false secret []) (.slice none 0 0) 0 w2 (KidsAt.nil _ _) (by simp [SmE, SmL]; exact hs)
 go_wp2_with fail
 refine Calls.mono k2 ?_
 rintro e w3 ⟨⟨u3, rfl, hu3⟩, hb3⟩
 obtain ⟨a3, c3, rfl⟩ := hu3.empty
 have m3 := (hb3.block _ (gl m2)).trans m2
 have t3 := (hb3.block _ (gl t2)).trans t2
 have b3 := b2.trans (hb3.mono b2.size)
 clear k2 hb3 hu3 b2 t2 m2
 simp only [elA, El.cls, El.tag, El.cons, El.bytes]
 have g4 : Below w3.heap.size w3 (w3.alloc (.cells #[.int .i64 2, .int .i64 0, .bool false, .string ⟨secret.toArray⟩, .slice a3 0 c3] 45)) := (Below.refl _ _).alloc (Nat.le_refl _) _
 have x4 : (w3.alloc (.cells #[.int .i64 2, .int .i64 0, .bool false, .string ⟨secret.toArray⟩, .slice a3 0 c3] 45)).heap[w3.heap.size]? = some (.cells #[.int .i64 2, .int .i64 0, .bool false, .string ⟨secret.toArray⟩, .slice a3 0 c3] 45 (0, 0)) := alloc_at _ _ _ rfl
 have m4 := (g4.block _ (gl m3)).trans m3
 have t4 := (g4.block _ (gl t3)).trans t3
 have b4 := b3.trans (g4.mono b3.size)
 have hs3 := (gl t3)
 clear m3 t3 b3 g4
 go_upto_region 2 with fail
 generalize w3.alloc (.cells #[.int .i64 2, .int .i64 0, .bool false, .string ⟨secret.toArray⟩, .slice a3 0 c3] 45) = w4 at x4 m4 t4 b4 ⊢
 have q4 : w4.cell? ⟨b, 4, none⟩ = some (.bool false) := (cell_of_heap m4 4).trans G4.out
 go_upto_region 4 with fail
 clear q4
 generalize w3.heap.size = x at x4 hs3 ⊢
 refine wp_region_held (S := fun w' => w'.heap[b]? = some (.cells A 28 (0, 0)) ∧ w'.heap[x]? = some (.cells #[.int .i64 2, .int .i64 0, .bool false, .string ⟨secret.toArray⟩, .slice a3 0 c3] 45 (0, 0))) (by kernel_rfl) ?_
 have T : w4.drew.heap[b]? = some (.cells A 28 (0, 0)) ∧ w4.drew.heap[x]? = some (.cells #[.int .i64 2, .int .i64 0, .bool false, .string ⟨secret.toArray⟩, .slice a3 0 c3] 45 (0, 0)) := ⟨m4, x4⟩
 have D : Below w.heap.size w w4.drew := b4.drew
 have R : w4.drew.heap[w.heap.size]? = some (.cells Ze 45 (0, 0)) := t4
 change wpAnyH _ _ _ _ _ _ _ _ w4.drew
 clear m4 x4 t4 b4
 generalize w4.drew = w5 at T D R ⊢
 refine tk 0 (.pointer (some ⟨b, 3, none⟩)) rfl (fun w' hS => by go_simp) T (fun K hK => ?_); go_simp; refine hK _ _ ?_; clear hK K
 refine tk 1 (.int .i64 (v : Int)) rfl (fun w' hS => by have q := (cell_of_heap hS.1 3).trans G3.out; go_simp) T (fun K hK => ?_); go_simp; refine hK _ _ ?_; clear hK K
 refine tk 3 (.pointer (some ⟨b, 2, none⟩)) rfl (fun w' hS => by go_simp) T (fun K hK => ?_); go_simp; refine hK _ _ ?_; clear hK K
 refine tk 4 (.string ⟨dn.toArray⟩) rfl (fun w' hS => by have q := (cell_of_heap hS.1 2).trans G2.out; go_simp) T (fun K hK => ?_); go_simp; refine hK _ _ ?_; clear hK K
 refine tk 6 (.agg #[.int .i64 2, .int .i64 0, .bool false, .string ⟨secret.toArray⟩, .slice a3 0 c3]) rfl (fun w' hS => by exact exec_loadRow 45 (.tmp 2) rfl x 45 _ (0, 0) (by rfl) hS.2 _ Tryz.underlying45 rfl (by rfl)) T (fun K hK => ?_); go_simp; refine hK _ _ ?_; clear hK K
 have kc := Int_small 2 v hv w5
 refine anyH_one 2 (by kernel_rfl) rfl (by rfl) (fun K hK => ?_); go_simp; go_wp2_with fail
 refine Calls.mono kc ?_
 rintro e w6 ⟨rfl, hbn⟩
 have T9 : w6.heap[b]? = some (.cells A 28 (0, 0)) ∧ w6.heap[x]? = some (.cells #[.int .i64 2, .int .i64 0, .bool false, .string ⟨secret.toArray⟩, .slice a3 0 c3] 45 (0, 0)) := ⟨(hbn.block _ (gl T.1)).trans T.1, (hbn.block _ (gl T.2)).trans T.2⟩
 have R9 := (hbn.block _ (gl R)).trans R
 have D9 := D.trans (hbn.mono D.size)
 clear kc hbn T R D
 have T := T9
 have R := R9
 have D := D9
 clear T9 R9 D9
 refine hK _ _ T ?_; clear hK K
 have kc := mstr_any dn w6
 refine anyH_one 5 (by kernel_rfl) rfl (by rfl) (fun K hK => ?_); go_simp; go_wp2_with fail
 refine Calls.mono kc ?_
 rintro e w7 ⟨rfl, hbn⟩
 have T9 : w7.heap[b]? = some (.cells A 28 (0, 0)) ∧ w7.heap[x]? = some (.cells #[.int .i64 2, .int .i64 0, .bool false, .string ⟨secret.toArray⟩, .slice a3 0 c3] 45 (0, 0)) := ⟨(hbn.block _ (gl T.1)).trans T.1, (hbn.block _ (gl T.2)).trans T.2⟩
 have R9 := (hbn.block _ (gl R)).trans R
 have D9 := D.trans (hbn.mono D.size)
 clear kc hbn T R D
 have T := T9
 have R := R9
 have D := D9
 clear T9 R9 D9
 refine hK _ _ T ?_; clear hK K
 simp only [elA, El.cls, El.tag, El.cons, El.bytes]
 have g8 : Below w7.heap.size w7 (w7.alloc (.cells #[.int .i64 0, .int .i64 2, .bool false, .string ⟨[UInt8.ofNat v].toArray⟩, .slice none 0 0, .int .i64 0, .int .i64 4, .bool false, .string ⟨dn.toArray⟩, .slice none 0 0, .int .i64 2, .int .i64 0, .bool false, .string ⟨secret.toArray⟩, .slice a3 0 c3] 45)) := (Below.refl _ _).alloc (Nat.le_refl _) _
 have y8 : (w7.alloc (.cells #[.int .i64 0, .int .i64 2, .bool false, .string ⟨[UInt8.ofNat v].toArray⟩, .slice none 0 0, .int .i64 0, .int .i64 4, .bool false, .string ⟨dn.toArray⟩, .slice none 0 0, .int .i64 2, .int .i64 0, .bool false, .string ⟨secret.toArray⟩, .slice a3 0 c3] 45)).heap[w7.heap.size]? = some (.cells #[.int .i64 0, .int .i64 2, .bool false, .string ⟨[UInt8.ofNat v].toArray⟩, .slice none 0 0, .int .i64 0, .int .i64 4, .bool false, .string ⟨dn.toArray⟩, .slice none 0 0, .int .i64 2, .int .i64 0, .bool false, .string ⟨secret.toArray⟩, .slice a3 0 c3] 45 (0, 0)) := alloc_at _ _ _ rfl
 have T8 : (w7.alloc (.cells #[.int .i64 0, .int .i64 2, .bool false, .string ⟨[UInt8.ofNat v].toArray⟩, .slice none 0 0, .int .i64 0, .int .i64 4, .bool false, .string ⟨dn.toArray⟩, .slice none 0 0, .int .i64 2, .int .i64 0, .bool false, .string ⟨secret.toArray⟩, .slice a3 0 c3] 45)).heap[b]? = some (.cells A 28 (0, 0)) ∧ (w7.alloc (.cells #[.int .i64 0, .int .i64 2, .bool false, .string ⟨[UInt8.ofNat v].toArray⟩, .slice none 0 0, .int .i64 0, .int .i64 4, .bool false, .string ⟨dn.toArray⟩, .slice none 0 0, .int .i64 2, .int .i64 0, .bool false, .string ⟨secret.toArray⟩, .slice a3 0 c3] 45)).heap[x]? = some (.cells #[.int .i64 2, .int .i64 0, .bool false, .string ⟨secret.toArray⟩, .slice a3 0 c3] 45 (0, 0)) := ⟨(g8.block _ (gl T.1)).trans T.1, (g8.block _ (gl T.2)).trans T.2⟩
 have R8 := (g8.block _ (gl R)).trans R
 have D8 := D.trans (g8.mono D.size)
 clear T R D g8
 refine anyH_one 7 (by kernel_rfl) rfl (by rfl) (fun K hK => ?_); go_simp; refine hK _ _ T8 ?_; clear hK K
 generalize w7.alloc (.cells #[.int .i64 0, .int .i64 2, .bool false, .string ⟨[UInt8.ofNat v].toArray⟩, .slice none 0 0, .int .i64 0, .int .i64 4, .bool false, .string ⟨dn.toArray⟩, .slice none 0 0, .int .i64 2, .int .i64 0, .bool false, .string ⟨secret.toArray⟩, .slice a3 0 c3] 45) = w8 at y8 T8 R8 D8 ⊢
 have hk8 : KidsAt (fun _ => True) w8 (.slice (some ⟨w7.heap.size, 0, none⟩) 3 3) [.mk 0 2 false [UInt8.ofNat v] [], .mk 0 4 false dn [], .mk 2 0 false secret []] :=
  kids_flat (P := fun _ => True) (l := [.mk 0 2 false [UInt8.ofNat v] [], .mk 0 4 false dn [], .mk 2 0 false secret []]) (us := [.slice none 0 0, .slice none 0 0, .slice a3 0 c3]) y8 rfl rfl (fun j e u hj hu => by
   have h3 : j = 0 ∨ j = 1 ∨ j = 2 := by have h9 := (List.getElem?_eq_some_iff.1 hj).1; simp at h9; omega
   rcases h3 with rfl | rfl | rfl
   all_goals (simp at hj hu; subst hj; subst hu; exact KidsAt.no _ _ _ _)) trivial
 have kc := Seq_any [.mk 0 2 false [UInt8.ofNat v] [], .mk 0 4 false dn [], .mk 2 0 false secret []] _ w8 hk8 (by simp [SmL, SmE]; exact ⟨hd, hs⟩) (by simp)
 refine anyH_one 8 (by kernel_rfl) rfl (by rfl) (fun K hK => ?_); go_simp; go_wp2_with fail
 refine Calls.mono kc ?_
 rintro e w9 ⟨⟨u9, rfl, hu9⟩, hb9⟩
 have T9 : w9.heap[b]? = some (.cells A 28 (0, 0)) ∧ w9.heap[x]? = some (.cells #[.int .i64 2, .int .i64 0, .bool false, .string ⟨secret.toArray⟩, .slice a3 0 c3] 45 (0, 0)) := ⟨(hb9.block _ (gl T8.1)).trans T8.1, (hb9.block _ (gl T8.2)).trans T8.2⟩
 have R9 := (hb9.block _ (gl R8)).trans R8
 have D9 := D8.trans (hb9.mono D8.size)
 have hs8 := (gl R8)
 clear kc hb9 T8 R8 D8 y8 hk8
 refine hK _ _ T9 ?_; clear hK K
 obtain ⟨E, hE⟩ : ∃ E, elA (.mk 0 16 true [] [.mk 0 2 false [UInt8.ofNat v] [], .mk 0 4 false dn [], .mk 2 0 false secret []]) u9 = E := ⟨_, rfl⟩
 have hE1 : E.all (·.oneCell') = true := by
  obtain ⟨a, c, hsl⟩ := hu9.shape
  subst hsl
  rw [← hE]; simp [elA, Value.oneCell']
 have hE2 : E.size = 5 := by rw [← hE]; rfl
 rw [hE]
 have HE := hid hE
 have HE1 := hid hE1
 have HE2 := hid hE2
 clear hE hE1 hE2
 have hwb : b ≠ w.heap.size := by omega
 have hwx : x ≠ w.heap.size := by omega
 have TF : (w9.setRow w.heap.size E).heap[b]? = some (.cells A 28 (0, 0)) ∧ (w9.setRow w.heap.size E).heap[x]? = some (.cells #[.int .i64 2, .int .i64 0, .bool false, .string ⟨secret.toArray⟩, .slice a3 0 c3] 45 (0, 0)) := ⟨(setRow_other w9 w.heap.size b E hwb).trans T9.1, (setRow_other w9 w.heap.size x E hwx).trans T9.2⟩
 have bF := below_row D9 (g := w.heap.size) (Nat.le_refl _) E
 have tF := setRow_heap w9 w.heap.size _ E _ _ R9
 have hwl : w.heap.size < w8.heap.size := by omega
 have uF : KidsAt (fun g => w.heap.size ≤ g) (w9.setRow w.heap.size E) u9 [.mk 0 2 false [UInt8.ofNat v] [], .mk 0 4 false dn [], .mk 2 0 false secret []] := hu9.kept fun g hg hl => ⟨setRow_other w9 w.heap.size g E (by omega), by omega⟩
 refine anyH_one 9 (by kernel_rfl) rfl (by rfl) (fun K hK => ?_)
 refine op_storeRow 45 (.tmp 1) (.tmp 23) rfl w.heap.size 45 _ E (by rfl) (by rfl) R9 (by rw [HE2.out]; rfl) (by rw [HE2.out]; rfl) HE1.out ?_
 refine hK _ _ TF ?_; clear hK K
 refine wpAnyH_done (by kernel_rfl) ?_ _
 simp only [Exit.then]
 refine ‹∀ (a : Act) (w : World), Code.wp _ _ _ a w → _› _ _ ?_
 clear T9 R9 D9 TF hu9
 generalize w9.setRow w.heap.size E = wF at bF tF uF ⊢
 have UF := hid uF
 clear uF
 go_simp
 go_wp2_with fail
 refine bodyPost_ret (v := .agg E) ?_ rfl (by rw [HPR.out]; exact ⟨⟨u9, by rw [HE.out], UF.out⟩, bF⟩)
 have hr := run_loadVar_row (P := Tryz.prog) wF w.heap.size 45 45 E (0, 0) _ tF (show Tryz.prog.underlying 45 = _ from Tryz.underlying45) (by rfl) (by rw [HE2.out]; rfl)
 simp [results, Tryz.f116]
 exact hr
end Go.Proofs.YthjaiigijbjloaaGreatDoor
