/- BerD. -/
import Derived.Test.YthjaiigijbjloaaGreatDoorQ2
namespace Go.Proofs.YthjaiigijbjloaaGreatDoor
open Go.RowKit Go.Lib
theorem eachE_eq (p : El → Bool) (d : Nat) (el : El) : eachE p d el = if 20 ≤ d then true else p el && eachL p (d + 1) el.kids := by
 cases el; simp only [eachE, El.kids]
theorem deepE_eq (d : Nat) (el : El) : deepE d el = if 20 ≤ d then true else deepL (d + 1) el.kids := by
 cases el; simp only [deepE, El.kids]
theorem drop_at {α : Type} {l : List α} {k : Nat} {e : α} (h : l[k]? = some e) : l.drop k = e :: l.drop (k + 1) := by
 obtain ⟨hk, he⟩ := List.getElem?_eq_some_iff.1 h
 rw [List.drop_eq_getElem_cons hk, he]
set_option maxRecDepth 100000 in
set_option maxHeartbeats 2000000 in
theorem hasTag_any (el : El) (u : Value) (w : World) (h : KidsAt (fun _ => True) w u el.kids) :
  Calls Tryz.prog 66 #[.agg (elA el u)] w fun e w' => e = .returned (.bool (hasTagE el)) ∧ Below w.heap.size w w' := by
 obtain ⟨a, c, hf⟩ := h.shape
 clear h
 obtain ⟨cl, t, k, b, ks⟩ := el
 simp only [El.kids] at hf
 subst hf
 unfold elA
 simp only [El.cls, El.tag, El.cons, El.bytes]
 have hb : Below w.heap.size w (w.alloc (.cells #[.int .i64 cl, .int .i64 t, .bool k, .string ⟨b.toArray⟩, .slice a ks.length c] 45)) := (Below.refl _ _).alloc (Nat.le_refl _) _
 by_cases h1 : 0 ≤ cl
 ·have g1 : decide (0 ≤ cl) = true := decide_eq_true h1
  by_cases h2 : cl ≤ 3
  ·have g2 : decide (cl ≤ 3) = true := decide_eq_true h2
   by_cases h3 : 0 ≤ t
   ·have g3 : decide (0 ≤ t) = true := decide_eq_true h3
    by_cases h4 : t ≤ 30
    ·have g4 : decide (t ≤ 30) = true := decide_eq_true h4
     have hr : hasTagE (.mk cl t k b ks) = true := by simp [hasTagE, h1, h2, h3, h4]
     rw [hr]
     go_enter Tryz.func66, Tryz.ntmps66
     go_wp2_with fail
     go_ret
     exact ⟨rfl, hb⟩
    ·have g4 : decide (t ≤ 30) = false := decide_eq_false h4
     have hr : hasTagE (.mk cl t k b ks) = false := by simp [hasTagE, h4]
     rw [hr]
     go_enter Tryz.func66, Tryz.ntmps66
     go_wp2_with fail
     go_ret
     exact ⟨rfl, hb⟩
   ·have g3 : decide (0 ≤ t) = false := decide_eq_false h3
    have hr : hasTagE (.mk cl t k b ks) = false := by simp [hasTagE, h3]
    rw [hr]
    go_enter Tryz.func66, Tryz.ntmps66
    go_wp2_with fail
    go_ret
    exact ⟨rfl, hb⟩
  ·have g2 : decide (cl ≤ 3) = false := decide_eq_false h2
   have hr : hasTagE (.mk cl t k b ks) = false := by simp [hasTagE, h2]
   rw [hr]
   go_enter Tryz.func66, Tryz.ntmps66
   go_wp2_with fail
   go_ret
   exact ⟨rfl, hb⟩
 ·have g1 : decide (0 ≤ cl) = false := decide_eq_false h1
  have hr : hasTagE (.mk cl t k b ks) = false := by simp [hasTagE, h1]
  rw [hr]
  go_enter Tryz.func66, Tryz.ntmps66
  go_wp2_with fail
  go_ret
  exact ⟨rfl, hb⟩
set_option maxRecDepth 100000 in
set_option maxHeartbeats 2000000 in
theorem hasForm_any (el : El) (u : Value) (w : World) (h : KidsAt (fun _ => True) w u el.kids) :
  Calls Tryz.prog 67 #[.agg (elA el u)] w fun e w' => e = .returned (.bool (hasFormE el)) ∧ Below w.heap.size w w' := by
 obtain ⟨a, c, hf⟩ := h.shape
 clear h
 obtain ⟨cl, t, k, b, ks⟩ := el
 simp only [El.kids] at hf
 subst hf
 unfold elA
 simp only [El.cls, El.tag, El.cons, El.bytes]
 have hb : Below w.heap.size w (w.alloc (.cells #[.int .i64 cl, .int .i64 t, .bool k, .string ⟨b.toArray⟩, .slice a ks.length c] 45)) := (Below.refl _ _).alloc (Nat.le_refl _) _
 cases k with
 | true =>
  cases b with
  | nil =>
   have hr : hasFormE (.mk cl t true [] ks) = true := by simp [hasFormE]
   rw [hr]
   go_enter Tryz.func67, Tryz.ntmps67
   go_wp2_with fail
   go_ret
   exact ⟨rfl, hb⟩
  | cons x b =>
   have hr : hasFormE (.mk cl t true (x :: b) ks) = false := by simp [hasFormE]
   rw [hr]
   go_enter Tryz.func67, Tryz.ntmps67
   go_wp2_with fail
   go_ret
   exact ⟨rfl, hb⟩
 | false =>
  cases ks with
  | nil =>
   have hr : hasFormE (.mk cl t false b []) = true := by simp [hasFormE]
   rw [hr]
   go_enter Tryz.func67, Tryz.ntmps67
   go_wp2_with fail
   go_ret
   exact ⟨rfl, hb⟩
  | cons x ks =>
   have hr : hasFormE (.mk cl t false b (x :: ks)) = false := by simp [hasFormE]
   rw [hr]
   obtain ⟨m, hm⟩ : ∃ m, (x :: ks).length = m := ⟨_, rfl⟩
   have hm0 : ((m : Int) == 0) = false := by
    have h0 : m ≠ 0 := by rw [← hm]; simp
    simpa using h0
   rw [hm]
   rw [hm] at hb
   go_enter Tryz.func67, Tryz.ntmps67
   go_wp2_with fail
   go_ret
   exact ⟨rfl, hb⟩
set_option maxRecDepth 100000 in
set_option maxHeartbeats 4000000 in
theorem each_hasTag (n : Nat) : ∀ (el : El), depE el ≤ n → SmE el → ∀ (d : Nat), d ≤ 20 → ∀ (u : Value) (w : World), KidsAt (fun _ => True) w u el.kids →
  Calls Tryz.prog 65 #[.agg (elA el u), .int .i64 (d : Int), .func (.func 66) #[] #[]] w fun e w' => e = .returned (.bool (eachE hasTagE d el)) ∧ Below w.heap.size w w' := by
 induction n with
 | zero => intro el hd; rw [depE_kids] at hd; omega
 | succ n ih =>
 intro el hd hs d hd20 u w h
 obtain ⟨a, c, hf⟩ := h.shape
 subst hf
 obtain ⟨sb, sl, sk⟩ := SmE_parts hs
 have b1 : Below w.heap.size w (w.alloc (.cells #[.int .i64 el.cls, .int .i64 el.tag, .bool el.cons, .string ⟨el.bytes.toArray⟩, .slice a el.kids.length c] 45)) := (Below.refl _ _).alloc (Nat.le_refl _) _
 have r1 : (w.alloc (.cells #[.int .i64 el.cls, .int .i64 el.tag, .bool el.cons, .string ⟨el.bytes.toArray⟩, .slice a el.kids.length c] 45)).heap[w.heap.size]? = some (.cells #[.int .i64 el.cls, .int .i64 el.tag, .bool el.cons, .string ⟨el.bytes.toArray⟩, .slice a el.kids.length c] 45 (0, 0)) := alloc_at _ _ _ rfl
 have ky := hasTag_any el _ _ (h.below b1)
 have H := hid (h.below b1)
 have IH := hid ih
 have HS := hid sk
 have HD := hid hd
 clear h ih sk hd hs
 rw [eachE_eq]
 by_cases h20 : 20 ≤ d
 ·have g1 : decide ((20 : Int) ≤ (d : Int)) = true := decide_eq_true (by omega)
  rw [if_pos h20]
  unfold elA
  go_enter Tryz.func65, Tryz.ntmps65
  go_wp2_with fail
  go_ret
  exact ⟨rfl, b1⟩
 ·have g1 : decide ((20 : Int) ≤ (d : Int)) = false := decide_eq_false (by omega)
  rw [if_neg h20]
  obtain ⟨ANS, hA⟩ : ∃ A, (hasTagE el && eachL hasTagE (d + 1) el.kids) = A := ⟨_, rfl⟩
  rw [hA]
  have HA0 := hid hA
  clear hA
  unfold elA at ky ⊢
  go_enter Tryz.func65, Tryz.ntmps65
  refine wp_seq ?_
  refine wp_region_list ?_
  refine wpList_plain rfl fun K hK => ?_; go_simp; refine hK _ _ ?_; clear hK K
  generalize w.alloc (.cells #[.int .i64 el.cls, .int .i64 el.tag, .bool el.cons, .string ⟨el.bytes.toArray⟩, .slice a el.kids.length c] 45) = w1 at b1 r1 ky H ⊢
  go_wp2_with (refine wpList_loadRow rfl 45 (.tmp 3) rfl w.heap.size 45 _ (0, 0) (by rfl) r1 _ Tryz.underlying45 rfl (by rfl) ?_)
  refine Calls.mono ky ?_
  rintro e2 w2 ⟨rfl, hb2⟩
  have r2 := (hb2.block _ (gl r1)).trans r1
  have b2 := b1.trans (hb2.mono b1.size)
  have H2 := hid (H.out.below hb2)
  clear b1 r1 ky H hb2
  obtain ⟨BP, hp⟩ : ∃ B, hasTagE el = B := ⟨_, rfl⟩
  cases BP with
  | false =>
   have e : ANS = false := by rw [← HA0.out, hp]; rfl
   subst e
   rw [hp]
   go_wp2_with fail
   go_ret
   exact ⟨rfl, b2⟩
  | true =>
   have hA : eachL hasTagE (d + 1) el.kids = ANS := by have := HA0.out; rw [hp, Bool.true_and] at this; exact this
   have HA := hid hA
   rw [hp]
   clear hA hp HA0
   have q4 : w2.cell? ⟨w.heap.size, 4, none⟩ = some (.slice a el.kids.length c) := (cell_of_heap r2 4).trans rfl
   clear r2
   go_wp2_with fail
   go_loopw [18] (fun i wr => ∃ k : Nat, i = .int .i64 (k : Int) ∧ k ≤ el.kids.length ∧ Below w2.heap.size w2 wr ∧ eachL hasTagE (d + 1) (el.kids.drop k) = ANS) (fun i _ => el.kids.length - (RowKit.intOf i).toNat)
   case atStart => exact ⟨0, rfl, Nat.zero_le _, Below.refl _ _, HA.out⟩
   case round =>
    clear q4
    obtain ⟨k, rfl, hk, hbe, hans⟩ := hrel
    by_cases hkl : k < el.kids.length
    ·obtain ⟨e, he⟩ : ∃ e, el.kids[k]? = some e := ⟨el.kids[k], List.getElem?_eq_getElem hkl⟩
     obtain ⟨a', cap', e', _, hsrc⟩ := H2.out.below hbe
     cases e'
     obtain ⟨g, o, ha, _, hcells⟩ := hsrc (by intro h0; rw [h0] at hkl; simp at hkl)
     subst ha
     obtain ⟨p0, p1, p2, p3, u, p4, hu⟩ := (ElsC.get el.kids g o k e hcells he).cells
     obtain ⟨au, cu, hfu⟩ := hu.shape
     subst hfu
     have hdep : depE e ≤ n := by have h1 := depL_get el.kids k e he; have h2 := depE_kids el; have := HD.out; omega
     rw [drop_at he] at hans
     simp only [eachL] at hans
     have i1 : (k : Int) < (el.kids.length : Int) := by omega
     have i3 : decide ((k : Int) < (el.kids.length : Int)) = true := decide_eq_true i1
     have m1 : Below wr.heap.size wr (wr.alloc (.cells #[.int .i64 e.cls, .int .i64 e.tag, .bool e.cons, .string ⟨e.bytes.toArray⟩, .slice au e.kids.length cu] 45)) := (Below.refl _ _).alloc (Nat.le_refl _) _
     have kr := IH.out e hdep (SmL_get el.kids k e HS.out he) (d + 1) (by omega) _ _ (hu.below m1)
     have b4 := hbe.trans (m1.mono hbe.size)
     have hsz := hbe.size
     have hsm := m1.size
     have HB4 := hid b4
     have hdc : ((d + 1 : Nat) : Int) = (d : Int) + 1 := by omega
     rw [hdc] at kr
     clear hdc
     clear hsrc hcells he hu b4 m1
     cases hv : eachE hasTagE (d + 1) e with
     | false =>
      rw [hv] at kr hans
      rw [Bool.false_and] at hans
      subst hans
      unfold elA at kr
      go_wp2_with (refine wpList_loadRow rfl 45 (.tmp 8) rfl wr.heap.size 45 _ (0, 0) (by rfl) (alloc_at _ _ _ rfl) _ Tryz.underlying45 rfl (by rfl) ?_)
      refine Calls.mono kr ?_
      rintro e5 w5 ⟨rfl, hb5⟩
      go_wp2_with fail
      go_ret
      exact ⟨rfl, b2.trans ((HB4.out.trans (hb5.mono (by omega))).mono b2.size)⟩
     | true =>
      rw [hv] at kr hans
      rw [Bool.true_and] at hans
      unfold elA at kr
      have HANS := hid hans
      clear hans
      go_wp2_with (refine wpList_loadRow rfl 45 (.tmp 8) rfl wr.heap.size 45 _ (0, 0) (by rfl) (alloc_at _ _ _ rfl) _ Tryz.underlying45 rfl (by rfl) ?_)
      refine Calls.mono kr ?_
      rintro e5 w5 ⟨rfl, hb5⟩
      have HB5 := hid (HB4.out.trans (hb5.mono (by omega)))
      clear hb5 kr
      go_wp2_with fail
      exact ⟨⟨k + 1, by go_num, by omega, HB5.out, HANS.out⟩, by simp [RowKit.intOf]; omega⟩
    ·obtain rfl : k = el.kids.length := by omega
     rw [List.drop_of_length_le (Nat.le_refl _)] at hans
     simp only [eachL] at hans
     subst hans
     have i3 : decide ((el.kids.length : Int) < (el.kids.length : Int)) = false := decide_eq_false (by omega)
     go_wp2_with fail
     go_ret
     exact ⟨rfl, b2.trans (hbe.mono b2.size)⟩
set_option maxRecDepth 100000 in
set_option maxHeartbeats 4000000 in
theorem each_hasForm (n : Nat) : ∀ (el : El), depE el ≤ n → SmE el → ∀ (d : Nat), d ≤ 20 → ∀ (u : Value) (w : World), KidsAt (fun _ => True) w u el.kids →
  Calls Tryz.prog 65 #[.agg (elA el u), .int .i64 (d : Int), .func (.func 67) #[] #[]] w fun e w' => e = .returned (.bool (eachE hasFormE d el)) ∧ Below w.heap.size w w' := by
 induction n with
 | zero => intro el hd; rw [depE_kids] at hd; omega
 | succ n ih =>
 intro el hd hs d hd20 u w h
 obtain ⟨a, c, hf⟩ := h.shape
 subst hf
 obtain ⟨sb, sl, sk⟩ := SmE_parts hs
 have b1 : Below w.heap.size w (w.alloc (.cells #[.int .i64 el.cls, .int .i64 el.tag, .bool el.cons, .string ⟨el.bytes.toArray⟩, .slice a el.kids.length c] 45)) := (Below.refl _ _).alloc (Nat.le_refl _) _
 have r1 : (w.alloc (.cells #[.int .i64 el.cls, .int .i64 el.tag, .bool el.cons, .string ⟨el.bytes.toArray⟩, .slice a el.kids.length c] 45)).heap[w.heap.size]? = some (.cells #[.int .i64 el.cls, .int .i64 el.tag, .bool el.cons, .string ⟨el.bytes.toArray⟩, .slice a el.kids.length c] 45 (0, 0)) := alloc_at _ _ _ rfl
 have ky := hasForm_any el _ _ (h.below b1)
 have H := hid (h.below b1)
 have IH := hid ih
 have HS := hid sk
 have HD := hid hd
 clear h ih sk hd hs
 rw [eachE_eq]
 by_cases h20 : 20 ≤ d
 ·have g1 : decide ((20 : Int) ≤ (d : Int)) = true := decide_eq_true (by omega)
  rw [if_pos h20]
  unfold elA
  go_enter Tryz.func65, Tryz.ntmps65
  go_wp2_with fail
  go_ret
  exact ⟨rfl, b1⟩
 ·have g1 : decide ((20 : Int) ≤ (d : Int)) = false := decide_eq_false (by omega)
  rw [if_neg h20]
  obtain ⟨ANS, hA⟩ : ∃ A, (hasFormE el && eachL hasFormE (d + 1) el.kids) = A := ⟨_, rfl⟩
  rw [hA]
  have HA0 := hid hA
  clear hA
  unfold elA at ky ⊢
  go_enter Tryz.func65, Tryz.ntmps65
  refine wp_seq ?_
  refine wp_region_list ?_
  refine wpList_plain rfl fun K hK => ?_; go_simp; refine hK _ _ ?_; clear hK K
  generalize w.alloc (.cells #[.int .i64 el.cls, .int .i64 el.tag, .bool el.cons, .string ⟨el.bytes.toArray⟩, .slice a el.kids.length c] 45) = w1 at b1 r1 ky H ⊢
  go_wp2_with (refine wpList_loadRow rfl 45 (.tmp 3) rfl w.heap.size 45 _ (0, 0) (by rfl) r1 _ Tryz.underlying45 rfl (by rfl) ?_)
  refine Calls.mono ky ?_
  rintro e2 w2 ⟨rfl, hb2⟩
  have r2 := (hb2.block _ (gl r1)).trans r1
  have b2 := b1.trans (hb2.mono b1.size)
  have H2 := hid (H.out.below hb2)
  clear b1 r1 ky H hb2
  obtain ⟨BP, hp⟩ : ∃ B, hasFormE el = B := ⟨_, rfl⟩
  cases BP with
  | false =>
   have e : ANS = false := by rw [← HA0.out, hp]; rfl
   subst e
   rw [hp]
   go_wp2_with fail
   go_ret
   exact ⟨rfl, b2⟩
  | true =>
   have hA : eachL hasFormE (d + 1) el.kids = ANS := by have := HA0.out; rw [hp, Bool.true_and] at this; exact this
   have HA := hid hA
   rw [hp]
   clear hA hp HA0
   have q4 : w2.cell? ⟨w.heap.size, 4, none⟩ = some (.slice a el.kids.length c) := (cell_of_heap r2 4).trans rfl
   clear r2
   go_wp2_with fail
   go_loopw [18] (fun i wr => ∃ k : Nat, i = .int .i64 (k : Int) ∧ k ≤ el.kids.length ∧ Below w2.heap.size w2 wr ∧ eachL hasFormE (d + 1) (el.kids.drop k) = ANS) (fun i _ => el.kids.length - (RowKit.intOf i).toNat)
   case atStart => exact ⟨0, rfl, Nat.zero_le _, Below.refl _ _, HA.out⟩
   case round =>
    clear q4
    obtain ⟨k, rfl, hk, hbe, hans⟩ := hrel
    by_cases hkl : k < el.kids.length
    ·obtain ⟨e, he⟩ : ∃ e, el.kids[k]? = some e := ⟨el.kids[k], List.getElem?_eq_getElem hkl⟩
     obtain ⟨a', cap', e', _, hsrc⟩ := H2.out.below hbe
     cases e'
     obtain ⟨g, o, ha, _, hcells⟩ := hsrc (by intro h0; rw [h0] at hkl; simp at hkl)
     subst ha
     obtain ⟨p0, p1, p2, p3, u, p4, hu⟩ := (ElsC.get el.kids g o k e hcells he).cells
     obtain ⟨au, cu, hfu⟩ := hu.shape
     subst hfu
     have hdep : depE e ≤ n := by have h1 := depL_get el.kids k e he; have h2 := depE_kids el; have := HD.out; omega
     rw [drop_at he] at hans
     simp only [eachL] at hans
     have i1 : (k : Int) < (el.kids.length : Int) := by omega
     have i3 : decide ((k : Int) < (el.kids.length : Int)) = true := decide_eq_true i1
     have m1 : Below wr.heap.size wr (wr.alloc (.cells #[.int .i64 e.cls, .int .i64 e.tag, .bool e.cons, .string ⟨e.bytes.toArray⟩, .slice au e.kids.length cu] 45)) := (Below.refl _ _).alloc (Nat.le_refl _) _
     have kr := IH.out e hdep (SmL_get el.kids k e HS.out he) (d + 1) (by omega) _ _ (hu.below m1)
     have b4 := hbe.trans (m1.mono hbe.size)
     have hsz := hbe.size
     have hsm := m1.size
     have HB4 := hid b4
     have hdc : ((d + 1 : Nat) : Int) = (d : Int) + 1 := by omega
     rw [hdc] at kr
     clear hdc
     clear hsrc hcells he hu b4 m1
     cases hv : eachE hasFormE (d + 1) e with
     | false =>
      rw [hv] at kr hans
      rw [Bool.false_and] at hans
      subst hans
      unfold elA at kr
      go_wp2_with (refine wpList_loadRow rfl 45 (.tmp 8) rfl wr.heap.size 45 _ (0, 0) (by rfl) (alloc_at _ _ _ rfl) _ Tryz.underlying45 rfl (by rfl) ?_)
      refine Calls.mono kr ?_
      rintro e5 w5 ⟨rfl, hb5⟩
      go_wp2_with fail
      go_ret
      exact ⟨rfl, b2.trans ((HB4.out.trans (hb5.mono (by omega))).mono b2.size)⟩
     | true =>
      rw [hv] at kr hans
      rw [Bool.true_and] at hans
      unfold elA at kr
      have HANS := hid hans
      clear hans
      go_wp2_with (refine wpList_loadRow rfl 45 (.tmp 8) rfl wr.heap.size 45 _ (0, 0) (by rfl) (alloc_at _ _ _ rfl) _ Tryz.underlying45 rfl (by rfl) ?_)
      refine Calls.mono kr ?_
      rintro e5 w5 ⟨rfl, hb5⟩
      have HB5 := hid (HB4.out.trans (hb5.mono (by omega)))
      clear hb5 kr
      go_wp2_with fail
      exact ⟨⟨k + 1, by go_num, by omega, HB5.out, HANS.out⟩, by simp [RowKit.intOf]; omega⟩
    ·obtain rfl : k = el.kids.length := by omega
     rw [List.drop_of_length_le (Nat.le_refl _)] at hans
     simp only [eachL] at hans
     subst hans
     have i3 : decide ((el.kids.length : Int) < (el.kids.length : Int)) = false := decide_eq_false (by omega)
     go_wp2_with fail
     go_ret
     exact ⟨rfl, b2.trans (hbe.mono b2.size)⟩
end Go.Proofs.YthjaiigijbjloaaGreatDoor
