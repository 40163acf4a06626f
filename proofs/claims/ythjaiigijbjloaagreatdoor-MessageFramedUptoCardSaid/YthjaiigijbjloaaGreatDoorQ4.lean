/- BerE, BuildS. -/
import Derived.Lib.Builder
import Derived.Lib.UnsafeStr
import Derived.Test.YthjaiigijbjloaaGreatDoorQ3
namespace Go.Proofs.YthjaiigijbjloaaGreatDoor
open Go.RowKit Go.Lib
set_option maxRecDepth 100000 in
set_option maxHeartbeats 4000000 in
theorem deep_any (n : Nat) : ∀ (el : El), depE el ≤ n → SmE el → ∀ (d : Nat), d ≤ 20 → ∀ (u : Value) (w : World), KidsAt (fun _ => True) w u el.kids →
  Calls Tryz.prog 68 #[.agg (elA el u), .int .i64 (d : Int)] w fun e w' => e = .returned (.bool (deepE d el)) ∧ Below w.heap.size w w' := by
 induction n with
 | zero => intro el hd; rw [depE_kids] at hd; omega
 | succ n ih =>
 intro el hd hs d hd20 u w h
 obtain ⟨a, c, hf⟩ := h.shape
 subst hf
 obtain ⟨sb, sl, sk⟩ := SmE_parts hs
 have b1 : Below w.heap.size w (w.alloc (.cells #[.int .i64 el.cls, .int .i64 el.tag, .bool el.cons, .string ⟨el.bytes.toArray⟩, .slice a el.kids.length c] 45)) := (Below.refl _ _).alloc (Nat.le_refl _) _
 have r1 : (w.alloc (.cells #[.int .i64 el.cls, .int .i64 el.tag, .bool el.cons, .string ⟨el.bytes.toArray⟩, .slice a el.kids.length c] 45)).heap[w.heap.size]? = some (.cells #[.int .i64 el.cls, .int .i64 el.tag, .bool el.cons, .string ⟨el.bytes.toArray⟩, .slice a el.kids.length c] 45 (0, 0)) := alloc_at _ _ _ rfl
 have H := hid (h.below b1)
 have IH := hid ih
 have HS := hid sk
 have HD := hid hd
 clear h ih sk hd hs
 rw [deepE_eq]
 by_cases h20 : 20 ≤ d
 ·have g1 : decide ((20 : Int) ≤ (d : Int)) = true := decide_eq_true (by omega)
  rw [if_pos h20]
  unfold elA
  go_enter Tryz.func68, Tryz.ntmps68
  go_wp2_with fail
  go_ret
  exact ⟨rfl, b1⟩
 ·have g1 : decide ((20 : Int) ≤ (d : Int)) = false := decide_eq_false (by omega)
  rw [if_neg h20]
  obtain ⟨ANS, hA⟩ : ∃ A, deepL (d + 1) el.kids = A := ⟨_, rfl⟩
  rw [hA]
  have HA := hid hA
  clear hA
  unfold elA
  go_enter Tryz.func68, Tryz.ntmps68
  refine wp_seq ?_
  refine wp_region_list ?_
  refine wpList_plain rfl fun K hK => ?_; go_simp; refine hK _ _ ?_; clear hK K
  generalize w.alloc (.cells #[.int .i64 el.cls, .int .i64 el.tag, .bool el.cons, .string ⟨el.bytes.toArray⟩, .slice a el.kids.length c] 45) = w2 at b1 r1 H ⊢
  have q4 : w2.cell? ⟨w.heap.size, 4, none⟩ = some (.slice a el.kids.length c) := (cell_of_heap r1 4).trans rfl
  clear r1
  go_wp2_with fail
  go_loopw [12] (fun i wr => ∃ k : Nat, i = .int .i64 (k : Int) ∧ k ≤ el.kids.length ∧ Below w2.heap.size w2 wr ∧ deepL (d + 1) (el.kids.drop k) = ANS) (fun i _ => el.kids.length - (RowKit.intOf i).toNat)
  case atStart => exact ⟨0, rfl, Nat.zero_le _, Below.refl _ _, HA.out⟩
  case round =>
   clear q4
   obtain ⟨k, rfl, hk, hbe, hans⟩ := hrel
   by_cases hkl : k < el.kids.length
   ·obtain ⟨e, he⟩ : ∃ e, el.kids[k]? = some e := ⟨el.kids[k], List.getElem?_eq_getElem hkl⟩
    obtain ⟨a', cap', e', _, hsrc⟩ := H.out.below hbe
    cases e'
    obtain ⟨g, o, ha, _, hcells⟩ := hsrc (by intro h0; rw [h0] at hkl; simp at hkl)
    subst ha
    obtain ⟨p0, p1, p2, p3, u, p4, hu⟩ := (ElsC.get el.kids g o k e hcells he).cells
    obtain ⟨au, cu, hfu⟩ := hu.shape
    subst hfu
    have hdep : depE e ≤ n := by have h1 := depL_get el.kids k e he; have h2 := depE_kids el; have := HD.out; omega
    rw [drop_at he] at hans
    simp only [deepL] at hans
    have i1 : (k : Int) < (el.kids.length : Int) := by omega
    have i3 : decide ((k : Int) < (el.kids.length : Int)) = true := decide_eq_true i1
    have m1 : Below wr.heap.size wr (wr.alloc (.cells #[.int .i64 e.cls, .int .i64 e.tag, .bool e.cons, .string ⟨e.bytes.toArray⟩, .slice au e.kids.length cu] 45)) := (Below.refl _ _).alloc (Nat.le_refl _) _
    have kr := IH.out e hdep (SmL_get el.kids k e HS.out he) (d + 1) (by omega) _ _ (hu.below m1)
    have hsz := hbe.size
    have hsm := m1.size
    have HB4 := hid (hbe.trans (m1.mono hbe.size))
    have hdc : ((d + 1 : Nat) : Int) = (d : Int) + 1 := by omega
    rw [hdc] at kr
    clear hdc
    clear hsrc hcells he hu m1
    cases hv : deepE (d + 1) e with
    | true =>
     rw [hv] at kr hans
     rw [Bool.true_or] at hans
     subst hans
     unfold elA at kr
     go_wp2_with (refine wpList_loadRow rfl 45 (.tmp 6) rfl wr.heap.size 45 _ (0, 0) (by rfl) (alloc_at _ _ _ rfl) _ Tryz.underlying45 rfl (by rfl) ?_)
     refine Calls.mono kr ?_
     rintro e5 w5 ⟨rfl, hb5⟩
     go_wp2_with fail
     go_ret
     exact ⟨rfl, b1.trans ((HB4.out.trans (hb5.mono (by omega))).mono b1.size)⟩
    | false =>
     rw [hv] at kr hans
     rw [Bool.false_or] at hans
     unfold elA at kr
     have HANS := hid hans
     clear hans
     go_wp2_with (refine wpList_loadRow rfl 45 (.tmp 6) rfl wr.heap.size 45 _ (0, 0) (by rfl) (alloc_at _ _ _ rfl) _ Tryz.underlying45 rfl (by rfl) ?_)
     refine Calls.mono kr ?_
     rintro e5 w5 ⟨rfl, hb5⟩
     have HB5 := hid (HB4.out.trans (hb5.mono (by omega)))
     clear hb5 kr
     go_wp2_with fail
     exact ⟨⟨k + 1, by go_num, by omega, HB5.out, HANS.out⟩, by simp [RowKit.intOf]; omega⟩
   ·obtain rfl : k = el.kids.length := by omega
    rw [List.drop_of_length_le (Nat.le_refl _)] at hans
    simp only [deepL] at hans
    subst hans
    have i3 : decide ((el.kids.length : Int) < (el.kids.length : Int)) = false := decide_eq_false (by omega)
    go_wp2_with fail
    go_ret
    exact ⟨rfl, b1.trans (hbe.mono b1.size)⟩
def LenOk (N : Nat) : Prop := ∀ n, n ≤ N → ∀ w : World, Calls Tryz.prog 109 #[.int .i64 (n : Int)] w fun e w' => e = .returned (.string ⟨(lenB n).toArray⟩) ∧ Below w.heap.size w w'
theorem sizeE_eq (el : El) : sizeE el = min (1 + (lenB (min (sizeL el.bytes.length el.kids) 65537)).length + sizeL el.bytes.length el.kids) 65537 := by
 cases el; simp only [sizeE, El.bytes, El.kids]
theorem sizeE_le (el : El) : sizeE el ≤ 65537 := by rw [sizeE_eq]; omega
theorem sizeL_ge : ∀ (l : List El) (n : Nat), min n 65537 ≤ sizeL n l
 | [], n => by simp only [sizeL]; omega
 | e :: r, n => by
  simp only [sizeL]
  have := sizeL_ge r (min (n + sizeE e) 65537)
  omega
theorem sizeL_mem : ∀ (l : List El) (n j : Nat) (e : El), l[j]? = some e → sizeE e ≤ sizeL n l
 | [], _, _, _, h => by simp at h
 | x :: r, n, 0, e, h => by
  simp at h; subst h
  simp only [sizeL]
  have h1 := sizeL_ge r (min (n + sizeE x) 65537)
  have h2 := sizeE_le x
  omega
 | x :: r, n, j + 1, e, h => by
  simp only [sizeL]
  exact sizeL_mem r _ j e (by simpa using h)
theorem lenB_short (n : Nat) : 1 ≤ (lenB n).length ∧ (lenB n).length ≤ 4 := by
 unfold lenB
 split
 ·simp
 ·split
  ·simp
  ·split <;> simp
theorem sizeE_kids (el : El) : min (sizeL el.bytes.length el.kids) 65537 ≤ sizeE el := by
 rw [sizeE_eq]; omega
set_option maxRecDepth 100000 in
set_option maxHeartbeats 4000000 in
theorem size_any (N : Nat) (hN : LenOk N) (n : Nat) : ∀ (el : El), depE el ≤ n → SmE el → sizeE el ≤ N → ∀ (u : Value) (w : World), KidsAt (fun _ => True) w u el.kids →
  Calls Tryz.prog 69 #[.agg (elA el u)] w fun e w' => e = .returned (.int .i64 (sizeE el : Int)) ∧ Below w.heap.size w w' := by
 induction n with
 | zero => intro el hd; rw [depE_kids] at hd; omega
 | succ n ih =>
 intro el hd hs hz u w h
 obtain ⟨a, c, hf⟩ := h.shape
 subst hf
 obtain ⟨sb, sl, sk⟩ := SmE_parts hs
 have b1 : Below w.heap.size w (w.alloc (.cells #[.int .i64 el.cls, .int .i64 el.tag, .bool el.cons, .string ⟨el.bytes.toArray⟩, .slice a el.kids.length c] 45)) := (Below.refl _ _).alloc (Nat.le_refl _) _
 have r1 : (w.alloc (.cells #[.int .i64 el.cls, .int .i64 el.tag, .bool el.cons, .string ⟨el.bytes.toArray⟩, .slice a el.kids.length c] 45)).heap[w.heap.size]? = some (.cells #[.int .i64 el.cls, .int .i64 el.tag, .bool el.cons, .string ⟨el.bytes.toArray⟩, .slice a el.kids.length c] 45 (0, 0)) := alloc_at _ _ _ rfl
 have H := hid (h.below b1)
 have IH := hid ih
 have HS := hid sk
 have HD := hid hd
 have HN := hid hN
 have hzk := sizeE_kids el
 have HKS := hid (fun (j : Nat) (e : El) (he : el.kids[j]? = some e) => (show sizeE e ≤ N from by
  have h1 := sizeL_mem el.kids el.bytes.length j e he
  have h2 := sizeE_le e
  omega))
 clear h ih sk hd hs
 obtain ⟨ANS, hA⟩ : ∃ A, sizeL el.bytes.length el.kids = A := ⟨_, rfl⟩
 have hres : sizeE el = min (1 + (lenB (min ANS 65537)).length + ANS) 65537 := by rw [sizeE_eq, hA]
 rw [hA] at hzk
 have klen := HN.out (min ANS 65537) (by omega)
 obtain ⟨L, hL⟩ : ∃ L, lenB (min ANS 65537) = L := ⟨_, rfl⟩
 have hL4 := lenB_short (min ANS 65537)
 rw [hL] at hres klen hL4
 obtain ⟨R, hR⟩ : ∃ R, sizeE el = R := ⟨_, rfl⟩
 rw [hR]
 rw [hR] at hres
 have HA := hid hA
 have HRES := hid hres
 clear hA hL hres hR hz hzk
 unfold elA
 go_enter Tryz.func69, Tryz.ntmps69
 refine wp_seq ?_
 refine wp_region_list ?_
 refine wpList_plain rfl fun K hK => ?_; go_simp; refine hK _ _ ?_; clear hK K
 generalize w.alloc (.cells #[.int .i64 el.cls, .int .i64 el.tag, .bool el.cons, .string ⟨el.bytes.toArray⟩, .slice a el.kids.length c] 45) = w2 at b1 r1 H ⊢
 have q4 : w2.cell? ⟨w.heap.size, 4, none⟩ = some (.slice a el.kids.length c) := (cell_of_heap r1 4).trans rfl
 have q3 : w2.cell? ⟨w.heap.size, 3, none⟩ = some (.string ⟨el.bytes.toArray⟩) := (cell_of_heap r1 3).trans rfl
 clear r1
 go_wp2_with fail
 go_loopw [3, 12] (fun v i wr => ∃ k m : Nat, i = .int .i64 (k : Int) ∧ v = .int .i64 (m : Int) ∧ m ≤ 1000000000 ∧ k ≤ el.kids.length ∧ Below w2.heap.size w2 wr ∧ sizeL m (el.kids.drop k) = ANS) (fun _ i _ => el.kids.length - (RowKit.intOf i).toNat)
 case atStart => exact ⟨0, el.bytes.length, rfl, rfl, sb, Nat.zero_le _, Below.refl _ _, HA.out⟩
 case round =>
  clear q4 q3
  obtain ⟨k, m, rfl, rfl, hm, hk, hbe, hans⟩ := hrel
  by_cases hkl : k < el.kids.length
  ·obtain ⟨e, he⟩ : ∃ e, el.kids[k]? = some e := ⟨el.kids[k], List.getElem?_eq_getElem hkl⟩
   obtain ⟨a', cap', e', _, hsrc⟩ := H.out.below hbe
   cases e'
   obtain ⟨g, o, ha, _, hcells⟩ := hsrc (by intro h0; rw [h0] at hkl; simp at hkl)
   subst ha
   obtain ⟨p0, p1, p2, p3, u, p4, hu⟩ := (ElsC.get el.kids g o k e hcells he).cells
   obtain ⟨au, cu, hfu⟩ := hu.shape
   subst hfu
   have hdep : depE e ≤ n := by have h1 := depL_get el.kids k e he; have h2 := depE_kids el; have := HD.out; omega
   rw [drop_at he] at hans
   simp only [sizeL] at hans
   have i1 : (k : Int) < (el.kids.length : Int) := by omega
   have i3 : decide ((k : Int) < (el.kids.length : Int)) = true := decide_eq_true i1
   have m1 : Below wr.heap.size wr (wr.alloc (.cells #[.int .i64 e.cls, .int .i64 e.tag, .bool e.cons, .string ⟨e.bytes.toArray⟩, .slice au e.kids.length cu] 45)) := (Below.refl _ _).alloc (Nat.le_refl _) _
   have kr := IH.out e hdep (SmL_get el.kids k e HS.out he) (HKS.out k e he) _ _ (hu.below m1)
   have hsz := hbe.size
   have hsm := m1.size
   have HB4 := hid (hbe.trans (m1.mono hbe.size))
   have hse := sizeE_le e
   obtain ⟨z, hzz⟩ : ∃ z, sizeE e = z := ⟨_, rfl⟩
   rw [hzz] at kr hans hse
   have HANS := hid hans
   have hw1 : IntKind.i64.wrap ((m : Int) + (z : Int)) = (m : Int) + (z : Int) := by rw [IntKind.wrap_i64]; omega
   clear hsrc hcells he hu m1 hzz hans
   unfold elA at kr
   go_wp2_with (refine wpList_loadRow rfl 45 (.tmp 5) rfl wr.heap.size 45 _ (0, 0) (by rfl) (alloc_at _ _ _ rfl) _ Tryz.underlying45 rfl (by rfl) ?_)
   refine Calls.mono kr ?_
   rintro e5 w5 ⟨rfl, hb5⟩
   have HB5 := hid (HB4.out.trans (hb5.mono (by omega)))
   clear hb5 kr
   go_wp2_with fail
   exact ⟨⟨k + 1, min (m + z) 65537, by go_num, by rw [show (min ((m : Int) + (z : Int)) 65537) = ((min (m + z) 65537 : Nat) : Int) by omega], by omega, by omega, HB5.out, HANS.out⟩, by simp [RowKit.intOf]; omega⟩
  ·obtain rfl : k = el.kids.length := by omega
   rw [List.drop_of_length_le (Nat.le_refl _)] at hans
   simp only [sizeL] at hans
   subst hans
   have hmin : ((min m 65537 : Nat) : Int) = min (m : Int) 65537 := by omega
   rw [hmin] at klen
   clear hmin
   have kl := klen wr
   clear klen
   have i3 : decide ((el.kids.length : Int) < (el.kids.length : Int)) = false := decide_eq_false (by omega)
   go_wp2_with fail
   refine Calls.mono kl ?_
   rintro e5 w5 ⟨rfl, hb5⟩
   obtain ⟨q, hq⟩ : ∃ q, L.length = q := ⟨_, rfl⟩
   have hres := HRES.out
   rw [hq] at hL4 hres
   have hw1 : IntKind.i64.wrap (1 + (q : Int)) = 1 + (q : Int) := by rw [IntKind.wrap_i64]; omega
   have hw2 : IntKind.i64.wrap (1 + (q : Int) + (m : Int)) = 1 + (q : Int) + (m : Int) := by rw [IntKind.wrap_i64]; omega
   have hfin : (min (1 + (q : Int) + (m : Int)) 65537) = (R : Int) := by omega
   have HF := hid hfin
   have b5 := b1.trans ((hbe.trans (hb5.mono hbe.size)).mono b1.size)
   clear hres hfin kl hb5
   go_wp2_with fail
   go_ret
   exact ⟨by rw [HF.out]; rfl, b5⟩
theorem Tryz.wBuilder : (Tryz.prog.info? 101).map (fun i => decide (i.size ≠ 0)) = some true := by kernel_rfl
theorem Tryz.wLies : liesAt Tryz.prog Tryz.prog.depth 101 (2 / Tryz.prog.cellsOf 101) 0 101 1 = true := by kernel_rfl
theorem Tryz.infoByte : (Tryz.prog.info? 5).map (fun i => (i.zero, i.size, i.bytes)) = some (some (.int .u8 0), 1, 1) := by kernel_rfl
theorem Tryz.cellsByte : Tryz.prog.cellsOf 5 = 1 := by kernel_rfl
set_option maxHeartbeats 1000000 in
set_option maxRecDepth 100000 in
theorem W_used (b : Nat) (w : World) (h0 : w.cell? ⟨b, 0, none⟩ = some (.pointer (some ⟨b, 0, none⟩))) :
  Calls Tryz.prog 160 #[.pointer (some ⟨b, 0, none⟩)] w fun e w' => e = .returned (.tuple #[]) ∧ w' = w := by
 obtain ⟨j, hj, _⟩ := Option.map_eq_some_iff.1 Tryz.wBuilder
 go_enter Tryz.func160, Tryz.ntmps160
 go_wp2
 rw [Lib.run_neq_ptr_same w _ Tryz.underlying99 hj]
 go_wp2
 go_end0
 exact ⟨rfl, rfl⟩
set_option maxHeartbeats 1000000 in
set_option maxRecDepth 100000 in
theorem W_fresh (b : Nat) (w : World) (h0 : w.cell? ⟨b, 0, none⟩ = some (.pointer none)) (hsh : w.shape? b = some (101, 2)) (hfz : w.frozen? ⟨b, 0, none⟩ = false) :
  Calls Tryz.prog 160 #[.pointer (some ⟨b, 0, none⟩)] w fun e w' => e = .returned (.tuple #[]) ∧ w' = w.setCell ⟨b, 0, none⟩ (.pointer (some ⟨b, 0, none⟩)) := by
 obtain ⟨j, hj, hjs⟩ := Option.map_eq_some_iff.1 Tryz.wBuilder
 have hjs2 := of_decide_eq_true hjs
 have r1 := Lib.run_to_unsafe (P := Tryz.prog) w ⟨b, 0, none⟩ Tryz.underlying99 Tryz.underlying179 hj hjs2 hsh (Nat.zero_lt_succ 1)
 have r2 := Lib.run_from_unsafe (P := Tryz.prog) w ⟨b, 0, none⟩ Tryz.underlying179 Tryz.underlying99 hj hsh Tryz.wLies
 clear hjs hjs2
 go_enter Tryz.func160, Tryz.ntmps160
 go_wp2
 rw [run_callFunc_extern Tryz.func172 (by kernel_rfl) (by kernel_rfl) (by kernel_rfl) (e := Extern.AbiNoEscape.same) (by kernel_rfl)]
 rw [Lib.run_noEscape]
 simp only [Result.andThen]
 rw [Oper.upon_value]
 go_wp2
 go_end0
 exact ⟨rfl, rfl⟩
def WAt (B b : Nat) (p : Value) (l : List UInt8) (w : World) : Prop := Lib.BuilderAt 101 5 B b p (bV l) w
def IsW (B b : Nat) (l : List UInt8) (w : World) : Prop := Lib.IsBuilder 101 5 B b (bV l) w
def WKept (b : Nat) (w w' : World) : Prop := w.heap.size ≤ w'.heap.size ∧ ∀ (j : Nat) (cs : Array Value) (t : TypeId) (fz : Nat × Nat), w.heap[j]? = some (.cells cs t fz) → j ≠ b → t ≠ 5 → w'.heap[j]? = some (.cells cs t fz)
theorem WKept.refl (b : Nat) (w : World) : WKept b w w := ⟨Nat.le_refl _, fun _ _ _ _ h _ _ => h⟩
theorem WKept.trans {b : Nat} {x y z : World} (h : WKept b x y) (k : WKept b y z) : WKept b x z := ⟨Nat.le_trans h.1 k.1, fun j cs t fz hj hne ht => k.2 j cs t fz (h.2 j cs t fz hj hne ht) hne ht⟩
theorem WKept.of_below {b : Nat} {w w' : World} (h : Below w.heap.size w w') : WKept b w w' := ⟨h.size, fun j _ _ _ hj _ _ => (h.block j (gl hj)).trans hj⟩
theorem WKept.set {b : Nat} {x w : World} (h : WKept b x w) (i : Nat) (v : Value) : WKept b x (w.setCell ⟨b, i, none⟩ v) :=
 ⟨by simpa using h.1, fun j cs t fz hj hne ht => (heap_setCell_other w ⟨b, i, none⟩ j v hne).trans (h.2 j cs t fz hj hne ht)⟩
theorem WKept.alloc {b : Nat} {x w : World} (h : WKept b x w) (o : Obj) : WKept b x (w.alloc o) := h.trans (WKept.of_below ((Below.refl _ _).alloc (Nat.le_refl _) o))
theorem WKept.grown {b B n : Nat} {x w w' : World} {v : Value} {xs : List Value} (h : WKept b x w) (ho : w.ownsRow B 5 1 v n xs) (hg : w.grownBy w' v.ownBlock) : WKept b x w' := by
 refine ⟨Nat.le_trans h.1 hg.size, fun j cs t fz hj hne ht => ?_⟩
 have h1 := h.2 j cs t fz hj hne ht
 rw [hg.block j (gl h1) ?_]
 ·exact h1
 ·intro e
  rcases ho.2 with ⟨hv, _⟩ | ⟨g, cap, cur, hv, _, hh, _⟩
  ·rw [hv] at e; cases e
  ·rw [hv] at e
   have e2 : j = g := Option.some.inj e
   subst e2
   rw [hh] at h1
   cases h1
   exact ht rfl
theorem W_copyCheck (B b : Nat) (l : List UInt8) (w : World) (h : IsW B b l w) :
  Calls Tryz.prog 160 #[.pointer (some ⟨b, 0, none⟩)] w fun e w' => e = .returned (.tuple #[]) ∧ (WAt B b (.pointer (some ⟨b, 0, none⟩)) l w' ∧ Below B w w' ∧ WKept b w w') := by
 rcases h with h | h
 ·refine (W_fresh b w h.cell0 h.shape h.frozen0).mono ?_
  rintro e w' ⟨rfl, rfl⟩
  exact ⟨rfl, h.used _, (Below.refl B w).setCell (p := ⟨b, 0, none⟩) h.1 _, (WKept.refl b w).set 0 _⟩
 ·refine (W_used b w h.cell0).mono ?_
  rintro e w' ⟨rfl, rfl⟩
  exact ⟨rfl, h, Below.refl B _, WKept.refl b _⟩
set_option maxHeartbeats 2000000 in
set_option maxRecDepth 100000 in
theorem W_WriteByte (B b : Nat) (l : List UInt8) (c : UInt8) (w : World) (h : IsW B b l w) (hlen : l.length ≤ 1099511627776) (hBw : B ≤ w.heap.size) :
  Calls Tryz.prog 110 #[.pointer (some ⟨b, 0, none⟩), .int .u8 (c.toNat : Int)] w fun e w' => e = .returned .nilIface ∧ (IsW B b (l ++ [c]) w' ∧ Below B w w' ∧ WKept b w w') := by
 obtain ⟨i0, hi, hz0, hz1, hz2⟩ := info_parts Tryz.infoByte
 have k1 := W_copyCheck B b l w h
 clear h
 go_enter Tryz.func110, Tryz.ntmps110
 go_wp2_with (go_at_call 160; refine k1.mono ?_)
 rintro e w1 ⟨rfl, h1, hb1, hkw1⟩
 obtain ⟨hB, v, hbk, hown, hne⟩ := h1
 rw [bV_length] at hown
 have c0 : w1.cell? ⟨b, 0, none⟩ = some (.pointer (some ⟨b, 0, none⟩)) := by rw [cell_of_heap hbk]; rfl
 have c1 : w1.cell? ⟨b, 1, none⟩ = some v := by rw [cell_of_heap hbk]; rfl
 go_wp2_with (at_builtin; refine wpList_append_own _ rfl _ _ 39 rfl B 5 i0 (.int .u8 0) 1 1 Tryz.underlying39 hi hz0 hz1 hz2 rfl (by decide) _ _ _ rfl (hown.alloc _) ⟨w1.heap.size, 0, none⟩ 1 1 [.int .u8 c.toNat] rfl rfl (cell_one_new _ _ _) ?c2 ?c3 ?c4 ?c5 ?_)
 case c2 => intro u hu; simp at hu; subst hu; rfl
 case c3 => unfold maxLen; omega
 case c4 => omega
 case c5 => have := hb1.size; simp; omega
 intro v' w2 hown' hgrow _
 have hlt : b < w1.heap.size := by
  rcases Nat.lt_or_ge b w1.heap.size with h' | h'
  ·exact h'
  ·simp [Array.getElem?_eq_none h'] at hbk
 have hb2 : w2.heap[b]? = some (.cells #[.pointer (some ⟨b, 0, none⟩), v] 101 (0, 0)) := by
  rw [hgrow.block b (by simp; omega) (fun e => hne e.symm), alloc_old w1 _ b hlt]
  exact hbk
 have d0 : w2.cell? ⟨b, 0, none⟩ = some (.pointer (some ⟨b, 0, none⟩)) := by rw [cell_of_heap hb2]; rfl
 have d1 : w2.cell? ⟨b, 1, none⟩ = some v := by rw [cell_of_heap hb2]; rfl
 have f1 : w2.frozen? ⟨b, 1, none⟩ = false := Lib.frozen_of_heap hb2 1
 obtain ⟨g, cap, rfl⟩ : ∃ g cap, v' = .slice (some ⟨g, 0, none⟩) (l.length + 1) cap := by
  rcases hown'.2 with ⟨_, h0⟩ | ⟨g, cap, cur, hv, _⟩
  ·omega
  ·exact ⟨g, cap, hv⟩
 go_wp2
 go_ret
 refine ⟨rfl, .inr ?_, ?_, ((hkw1.alloc _).grown (hown.alloc _) hgrow).set 1 _⟩
 ·rw [bV_append]
  exact Lib.BuilderAt.put (T := 101) (e := 5) hB hb2 (bs' := bV l ++ [.int .u8 c.toNat]) (by simpa [bV_length] using hown') (by decide)
 ·exact ((hb1.alloc (by have := hb1.size; omega) _).grown hgrow (by have := hb1.size; simp; omega) (fun k hk => (hown.lt k hk).1)).setCell (p := ⟨b, 1, none⟩) hB _
set_option maxHeartbeats 2000000 in
set_option maxRecDepth 100000 in
theorem W_WriteString (B b : Nat) (l s : List UInt8) (w : World) (h : IsW B b l w) (hlen : l.length ≤ 1099511627776) (hs : s.length ≤ 8796093022208) (hBw : B ≤ w.heap.size) :
  Calls Tryz.prog 111 #[.pointer (some ⟨b, 0, none⟩), .string ⟨s.toArray⟩] w fun e w' => e = .returned (.tuple #[.int .i64 s.length, .nilIface]) ∧ (IsW B b (l ++ s) w' ∧ Below B w w' ∧ WKept b w w') := by
 obtain ⟨i0, hi, hz0, hz1, hz2⟩ := info_parts Tryz.infoByte
 have k1 := W_copyCheck B b l w h
 clear h
 have hs2 : (⟨s.toArray⟩ : ByteArray).size = s.length := Lib.size_mk _
 go_enter Tryz.func111, Tryz.ntmps111
 go_wp2_with (go_at_call 160; refine k1.mono ?_)
 rintro e w1 ⟨rfl, h1, hb1, hkw1⟩
 obtain ⟨hB, v, hbk, hown, hne⟩ := h1
 rw [bV_length] at hown
 have c0 : w1.cell? ⟨b, 0, none⟩ = some (.pointer (some ⟨b, 0, none⟩)) := by rw [cell_of_heap hbk]; rfl
 have c1 : w1.cell? ⟨b, 1, none⟩ = some v := by rw [cell_of_heap hbk]; rfl
 go_wp2_with (at_builtin; refine Lib.wpList_append_own_string _ rfl _ _ 39 9 rfl B 5 i0 Tryz.underlying39 Tryz.underlying9 hi hz0 hz1 hz2 _ _ _ rfl hown ⟨s.toArray⟩ rfl ?c3 ?c4 ?c5 ?_)
 case c3 => unfold maxLen; omega
 case c4 => omega
 case c5 => have := hb1.size; omega
 intro v' w2 hown' hgrow _
 have hlt : b < w1.heap.size := by
  rcases Nat.lt_or_ge b w1.heap.size with h' | h'
  ·exact h'
  ·simp [Array.getElem?_eq_none h'] at hbk
 have hb2 : w2.heap[b]? = some (.cells #[.pointer (some ⟨b, 0, none⟩), v] 101 (0, 0)) := by
  rw [hgrow.block b hlt (fun e => hne e.symm)]
  exact hbk
 have d0 : w2.cell? ⟨b, 0, none⟩ = some (.pointer (some ⟨b, 0, none⟩)) := by rw [cell_of_heap hb2]; rfl
 have d1 : w2.cell? ⟨b, 1, none⟩ = some v := by rw [cell_of_heap hb2]; rfl
 have f1 : w2.frozen? ⟨b, 1, none⟩ = false := Lib.frozen_of_heap hb2 1
 obtain ⟨ao, n', cap, rfl⟩ : ∃ ao n' cap, v' = .slice ao n' cap := by
  rcases hown'.2 with ⟨hv, _⟩ | ⟨g, cap, cur, hv, _⟩
  ·exact ⟨_, _, _, hv⟩
  ·exact ⟨_, _, _, hv⟩
 go_wp2
 go_ret2
 refine ⟨rfl, .inr ?_, ?_, (hkw1.grown hown hgrow).set 1 _⟩
 ·rw [bV_append]
  exact Lib.BuilderAt.put (T := 101) (e := 5) hB hb2 (bs' := bV l ++ bV s) (by simpa [bV_length, strCells_bV] using hown') (by decide)
 ·exact (hb1.grown hgrow (by have := hb1.size; omega) (fun k hk => (hown.lt k hk).1)).setCell (p := ⟨b, 1, none⟩) hB _
set_option maxHeartbeats 1000000 in
set_option maxRecDepth 100000 in
theorem W_String (B b : Nat) (l : List UInt8) (w : World) (h : IsW B b l w) (h0 : l ≠ []) :
  Calls Tryz.prog 71 #[.pointer (some ⟨b, 0, none⟩)] w fun e w' => e = .returned (.string ⟨l.toArray⟩) ∧ Below B w w' := by
 obtain ⟨p, hB, v, hbk, hown, hne⟩ : ∃ p, WAt B b p l w := by
  rcases h with h | h
  ·exact ⟨_, h⟩
  ·exact ⟨_, h⟩
 have hl0 : l.length ≠ 0 := by simpa using h0
 rw [bV_length] at hown
 obtain ⟨g, cap, cur, rfl, hbg, hg, hnc, hcm, hcs, htake⟩ : ∃ g cap cur, v = .slice (some ⟨g, 0, none⟩) l.length cap ∧ B ≤ g ∧ w.heap[g]? = some (.cells cur 5 (0, 0)) ∧ l.length ≤ cap ∧ cap ≤ maxLen ∧ cur.size = cap * 1 ∧ cur.toList.take (l.length * 1) = bV l := by
  rcases hown.2 with ⟨_, hz⟩ | ⟨g, cap, cur, hv, r⟩
  ·exact absurd hz hl0
  ·exact ⟨g, cap, cur, hv, r⟩
 have c1 : w.drew.cell? ⟨b, 1, none⟩ = some (.slice (some ⟨g, 0, none⟩) l.length cap) := by
  have : w.drew.heap[b]? = some (.cells #[p, .slice (some ⟨g, 0, none⟩) l.length cap] 101 (0, 0)) := hbk
  rw [cell_of_heap this]; rfl
 have hSD : (Builtin.unsafeSliceData_ #[39] 142 #[.slice (some ⟨g, 0, none⟩) l.length cap]).run Tryz.prog w.drew = .ok (.pointer (some ⟨g, 0, none⟩)) w.drew :=
  Lib.run_unsafeSliceData_row _ _ _ _ _ _ (by omega)
 have hUS : (Builtin.unsafeString_ #[142, 3] 9 #[.pointer (some ⟨g, 0, none⟩), .int .i64 l.length]).run Tryz.prog w.drew = .ok (.string ⟨l.toArray⟩) (w.drew.freeze ⟨g, 0, none⟩ l.length) := by
  refine Lib.run_unsafeString_row w.drew 142 3 9 5 Tryz.underlying142 Tryz.cellsByte g cur.size (by have hg' : w.drew.heap[g]? = some (.cells cur 5 (0, 0)) := hg; simp [World.shape?, hg']) l h0 (by omega) (by unfold maxLen at hcm; omega) ?_
  intro j x hx
  exact hown.cells (g := g) rfl j (.int .u8 x.toNat) (by simp [bV, hx])
 clear htake hcs hg h
 go_enter Tryz.func71, Tryz.ntmps71
 go_wp2
 go_region
 all_goals (go_wp2; go_ret; exact ⟨rfl, Lib.below_freeze (Below.drew (Below.refl B w)) (p := ⟨g, 0, none⟩) hbg _⟩)
end Go.Proofs.YthjaiigijbjloaaGreatDoor
