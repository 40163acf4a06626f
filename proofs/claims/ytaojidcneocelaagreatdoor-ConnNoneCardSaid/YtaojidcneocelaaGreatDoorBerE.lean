/- ber.deep, size: what they return. (Written by genbere.py.) -/
import Derived.Test.YtaojidcneocelaaGreatDoorBerD
namespace Go.Proofs.YtaojidcneocelaaGreatDoor
open Go.RowKit Go.Lib

set_option maxRecDepth 100000 in
set_option maxHeartbeats 4000000 in
theorem deep_any (n : Nat) : ∀ (el : El), depE el ≤ n → SmE el → ∀ (d : Nat), d ≤ 20 → ∀ (u : Value) (w : World), KidsAt (fun _ => True) w u el.kids →
    Calls Tryz.prog 65 #[.agg (elA el u), .int .i64 (d : Int)] w fun e w' => e = .returned (.bool (deepE d el)) ∧ Below w.heap.size w w' := by
  induction n with
  | zero => intro el hd; rw [depE_kids] at hd; omega
  | succ n ih =>
  intro el hd hs d hd20 u w h
  obtain ⟨a, c, hf⟩ := h.shape
  subst hf
  obtain ⟨sb, sl, sk⟩ := SmE_parts hs
  have b1 : Below w.heap.size w (w.alloc (.cells #[.int .i64 el.cls, .int .i64 el.tag, .bool el.cons, .string ⟨el.bytes.toArray⟩, .slice a el.kids.length c] 76)) := (Below.refl _ _).alloc (Nat.le_refl _) _
  have r1 : (w.alloc (.cells #[.int .i64 el.cls, .int .i64 el.tag, .bool el.cons, .string ⟨el.bytes.toArray⟩, .slice a el.kids.length c] 76)).heap[w.heap.size]? = some (.cells #[.int .i64 el.cls, .int .i64 el.tag, .bool el.cons, .string ⟨el.bytes.toArray⟩, .slice a el.kids.length c] 76 (0, 0)) := alloc_at _ _ _ rfl
  have H := Lib.hid (h.below b1)
  have IH := Lib.hid ih
  have HS := Lib.hid sk
  have HD := Lib.hid hd
  clear h ih sk hd hs
  rw [deepE_eq]
  by_cases h20 : 20 ≤ d
  · have g1 : decide ((20 : Int) ≤ (d : Int)) = true := decide_eq_true (by omega)
    rw [if_pos h20]
    unfold elA
    go_enter Tryz.func65, Tryz.ntmps65
    go_wp2_with fail
    go_ret
    exact ⟨rfl, b1⟩
  · have g1 : decide ((20 : Int) ≤ (d : Int)) = false := decide_eq_false (by omega)
    rw [if_neg h20]
    obtain ⟨ANS, hA⟩ : ∃ A, deepL (d + 1) el.kids = A := ⟨_, rfl⟩
    rw [hA]
    have HA := Lib.hid hA
    clear hA
    unfold elA
    go_enter Tryz.func65, Tryz.ntmps65
    refine wp_seq ?_
    refine wp_region_list ?_
    refine wpList_plain rfl fun K hK => ?_
    go_simp
    refine hK _ _ ?_; clear hK K
    generalize w.alloc (.cells #[.int .i64 el.cls, .int .i64 el.tag, .bool el.cons, .string ⟨el.bytes.toArray⟩, .slice a el.kids.length c] 76) = w2 at b1 r1 H ⊢
    have q4 : w2.cell? ⟨w.heap.size, 4, none⟩ = some (.slice a el.kids.length c) := (Lib.cell_of_heap r1 4).trans rfl
    clear r1
    go_wp2_with fail
    go_loopw [12] (fun i wr => ∃ k : Nat, i = .int .i64 (k : Int) ∧ k ≤ el.kids.length ∧ Below w2.heap.size w2 wr ∧ deepL (d + 1) (el.kids.drop k) = ANS) (fun i _ => el.kids.length - (RowKit.intOf i).toNat)
    case atStart => exact ⟨0, rfl, Nat.zero_le _, Below.refl _ _, HA.out⟩
    case round =>
      clear q4
      obtain ⟨k, rfl, hk, hbe, hans⟩ := hrel
      by_cases hkl : k < el.kids.length
      · obtain ⟨e, he⟩ : ∃ e, el.kids[k]? = some e := ⟨el.kids[k], List.getElem?_eq_getElem hkl⟩
        obtain ⟨a', cap', e', _, hsrc⟩ := H.out.below hbe
        cases e'
        obtain ⟨g, o, ha, _, hcells⟩ := hsrc (by intro h0; rw [h0] at hkl; simp at hkl)
        subst ha
        obtain ⟨p0, p1, p2, p3, u, p4, hu⟩ := (ElsC.get el.kids g o k e hcells he).cells
        obtain ⟨au, cu, hfu⟩ := hu.shape
        subst hfu
        have hdep : depE e ≤ n := by have h1 := depL_get el.kids k e he; have h2 := depE_kids el; have := HD.out; omega
        rw [drop_at he] at hans
        simp only [deepL] at hans
        have i1 : (k : Int) < (el.kids.length : Int) := by omega
        have i3 : decide ((k : Int) < (el.kids.length : Int)) = true := decide_eq_true i1
        have m1 : Below wr.heap.size wr (wr.alloc (.cells #[.int .i64 e.cls, .int .i64 e.tag, .bool e.cons, .string ⟨e.bytes.toArray⟩, .slice au e.kids.length cu] 76)) := (Below.refl _ _).alloc (Nat.le_refl _) _
        have kr := IH.out e hdep (SmL_get el.kids k e HS.out he) (d + 1) (by omega) _ _ (hu.below m1)
        have hsz := hbe.size
        have hsm := m1.size
        have HB4 := Lib.hid (hbe.trans (m1.mono hbe.size))
        have hdc : ((d + 1 : Nat) : Int) = (d : Int) + 1 := by omega
        rw [hdc] at kr
        clear hdc
        clear hsrc hcells he hu m1
        cases hv : deepE (d + 1) e with
        | true =>
          rw [hv] at kr hans
          rw [Bool.true_or] at hans
          subst hans
          unfold elA at kr
          go_wp2_with (refine wpList_loadRow rfl 76 (.tmp 6) rfl wr.heap.size 76 _ (0, 0) (by rfl) (alloc_at _ _ _ rfl) _ Tryz.underlying76 rfl (by rfl) ?_)
          refine Calls.mono (show Calls _ _ _ _ _ from kr) ?_
          rintro e5 w5 ⟨rfl, hb5⟩
          go_wp2_with fail
          go_ret
          exact ⟨rfl, b1.trans ((HB4.out.trans (hb5.mono (by omega))).mono b1.size)⟩
        | false =>
          rw [hv] at kr hans
          rw [Bool.false_or] at hans
          unfold elA at kr
          have HANS := Lib.hid hans
          clear hans
          go_wp2_with (refine wpList_loadRow rfl 76 (.tmp 6) rfl wr.heap.size 76 _ (0, 0) (by rfl) (alloc_at _ _ _ rfl) _ Tryz.underlying76 rfl (by rfl) ?_)
          refine Calls.mono (show Calls _ _ _ _ _ from kr) ?_
          rintro e5 w5 ⟨rfl, hb5⟩
          have HB5 := Lib.hid (HB4.out.trans (hb5.mono (by omega)))
          clear hb5 kr
          go_wp2_with fail
          exact ⟨⟨k + 1, by go_num, by omega, HB5.out, HANS.out⟩, by simp [RowKit.intOf]; omega⟩
      · obtain rfl : k = el.kids.length := by omega
        rw [List.drop_of_length_le (Nat.le_refl _)] at hans
        simp only [deepL] at hans
        subst hans
        have i3 : decide ((el.kids.length : Int) < (el.kids.length : Int)) = false := decide_eq_false (by omega)
        go_wp2_with fail
        go_ret
        exact ⟨rfl, b1.trans (hbe.mono b1.size)⟩
/-- ber.length is known up to N. -/
def LenOk (N : Nat) : Prop := ∀ n, n ≤ N → ∀ w : World, Calls Tryz.prog 92 #[.int .i64 (n : Int)] w fun e w' => e = .returned (.string ⟨(lenB n).toArray⟩) ∧ Below w.heap.size w w'
theorem sizeE_eq (el : El) : sizeE el = min (1 + (lenB (min (sizeL el.bytes.length el.kids) 65537)).length + sizeL el.bytes.length el.kids) 65537 := by
  cases el; simp only [sizeE, El.bytes, El.kids]
theorem sizeE_le (el : El) : sizeE el ≤ 65537 := by rw [sizeE_eq]; omega
theorem sizeL_ge : ∀ (l : List El) (n : Nat), min n 65537 ≤ sizeL n l
  | [], n => by simp only [sizeL]; omega
  | e :: r, n => by
    simp only [sizeL]
    have := sizeL_ge r (min (n + sizeE e) 65537)
    omega
theorem sizeL_mem : ∀ (l : List El) (n j : Nat) (e : El), l[j]? = some e → sizeE e ≤ sizeL n l
  | [], _, _, _, h => by simp at h
  | x :: r, n, 0, e, h => by
    simp at h; subst h
    simp only [sizeL]
    have h1 := sizeL_ge r (min (n + sizeE x) 65537)
    have h2 := sizeE_le x
    omega
  | x :: r, n, j + 1, e, h => by
    simp only [sizeL]
    exact sizeL_mem r _ j e (by simpa using h)
theorem lenB_short (n : Nat) : 1 ≤ (lenB n).length ∧ (lenB n).length ≤ 4 := by
  unfold lenB
  split
  · simp
  · split
    · simp
    · split <;> simp
theorem sizeE_kids (el : El) : min (sizeL el.bytes.length el.kids) 65537 ≤ sizeE el := by
  rw [sizeE_eq]; omega
set_option maxRecDepth 100000 in
set_option maxHeartbeats 4000000 in
theorem size_any (N : Nat) (hN : LenOk N) (n : Nat) : ∀ (el : El), depE el ≤ n → SmE el → sizeE el ≤ N → ∀ (u : Value) (w : World), KidsAt (fun _ => True) w u el.kids →
    Calls Tryz.prog 66 #[.agg (elA el u)] w fun e w' => e = .returned (.int .i64 (sizeE el : Int)) ∧ Below w.heap.size w w' := by
  induction n with
  | zero => intro el hd; rw [depE_kids] at hd; omega
  | succ n ih =>
  intro el hd hs hz u w h
  obtain ⟨a, c, hf⟩ := h.shape
  subst hf
  obtain ⟨sb, sl, sk⟩ := SmE_parts hs
  have b1 : Below w.heap.size w (w.alloc (.cells #[.int .i64 el.cls, .int .i64 el.tag, .bool el.cons, .string ⟨el.bytes.toArray⟩, .slice a el.kids.length c] 76)) := (Below.refl _ _).alloc (Nat.le_refl _) _
  have r1 : (w.alloc (.cells #[.int .i64 el.cls, .int .i64 el.tag, .bool el.cons, .string ⟨el.bytes.toArray⟩, .slice a el.kids.length c] 76)).heap[w.heap.size]? = some (.cells #[.int .i64 el.cls, .int .i64 el.tag, .bool el.cons, .string ⟨el.bytes.toArray⟩, .slice a el.kids.length c] 76 (0, 0)) := alloc_at _ _ _ rfl
  have H := Lib.hid (h.below b1)
  have IH := Lib.hid ih
  have HS := Lib.hid sk
  have HD := Lib.hid hd
  have HN := Lib.hid hN
  have hzk := sizeE_kids el
  have HKS := Lib.hid (fun (j : Nat) (e : El) (he : el.kids[j]? = some e) => (show sizeE e ≤ N from by
    have h1 := sizeL_mem el.kids el.bytes.length j e he
    have h2 := sizeE_le e
    omega))
  clear h ih sk hd hs
  obtain ⟨ANS, hA⟩ : ∃ A, sizeL el.bytes.length el.kids = A := ⟨_, rfl⟩
  have hres : sizeE el = min (1 + (lenB (min ANS 65537)).length + ANS) 65537 := by rw [sizeE_eq, hA]
  rw [hA] at hzk
  have klen := HN.out (min ANS 65537) (by omega)
  obtain ⟨L, hL⟩ : ∃ L, lenB (min ANS 65537) = L := ⟨_, rfl⟩
  have hL4 := lenB_short (min ANS 65537)
  rw [hL] at hres klen hL4
  obtain ⟨R, hR⟩ : ∃ R, sizeE el = R := ⟨_, rfl⟩
  rw [hR]
  rw [hR] at hres
  have HA := Lib.hid hA
  have HRES := Lib.hid hres
  clear hA hL hres hR hz hzk
  unfold elA
  go_enter Tryz.func66, Tryz.ntmps66
  refine wp_seq ?_
  refine wp_region_list ?_
  refine wpList_plain rfl fun K hK => ?_
  go_simp
  refine hK _ _ ?_; clear hK K
  generalize w.alloc (.cells #[.int .i64 el.cls, .int .i64 el.tag, .bool el.cons, .string ⟨el.bytes.toArray⟩, .slice a el.kids.length c] 76) = w2 at b1 r1 H ⊢
  have q4 : w2.cell? ⟨w.heap.size, 4, none⟩ = some (.slice a el.kids.length c) := (Lib.cell_of_heap r1 4).trans rfl
  have q3 : w2.cell? ⟨w.heap.size, 3, none⟩ = some (.string ⟨el.bytes.toArray⟩) := (Lib.cell_of_heap r1 3).trans rfl
  clear r1
  go_wp2_with fail
  go_loopw [3, 12] (fun v i wr => ∃ k m : Nat, i = .int .i64 (k : Int) ∧ v = .int .i64 (m : Int) ∧ m ≤ 1000000000 ∧ k ≤ el.kids.length ∧ Below w2.heap.size w2 wr ∧ sizeL m (el.kids.drop k) = ANS) (fun _ i _ => el.kids.length - (RowKit.intOf i).toNat)
  case atStart => exact ⟨0, el.bytes.length, rfl, rfl, sb, Nat.zero_le _, Below.refl _ _, HA.out⟩
  case round =>
    clear q4 q3
    obtain ⟨k, m, rfl, rfl, hm, hk, hbe, hans⟩ := hrel
    by_cases hkl : k < el.kids.length
    · obtain ⟨e, he⟩ : ∃ e, el.kids[k]? = some e := ⟨el.kids[k], List.getElem?_eq_getElem hkl⟩
      obtain ⟨a', cap', e', _, hsrc⟩ := H.out.below hbe
      cases e'
      obtain ⟨g, o, ha, _, hcells⟩ := hsrc (by intro h0; rw [h0] at hkl; simp at hkl)
      subst ha
      obtain ⟨p0, p1, p2, p3, u, p4, hu⟩ := (ElsC.get el.kids g o k e hcells he).cells
      obtain ⟨au, cu, hfu⟩ := hu.shape
      subst hfu
      have hdep : depE e ≤ n := by have h1 := depL_get el.kids k e he; have h2 := depE_kids el; have := HD.out; omega
      rw [drop_at he] at hans
      simp only [sizeL] at hans
      have i1 : (k : Int) < (el.kids.length : Int) := by omega
      have i3 : decide ((k : Int) < (el.kids.length : Int)) = true := decide_eq_true i1
      have m1 : Below wr.heap.size wr (wr.alloc (.cells #[.int .i64 e.cls, .int .i64 e.tag, .bool e.cons, .string ⟨e.bytes.toArray⟩, .slice au e.kids.length cu] 76)) := (Below.refl _ _).alloc (Nat.le_refl _) _
      have kr := IH.out e hdep (SmL_get el.kids k e HS.out he) (HKS.out k e he) _ _ (hu.below m1)
      have hsz := hbe.size
      have hsm := m1.size
      have HB4 := Lib.hid (hbe.trans (m1.mono hbe.size))
      have hse := sizeE_le e
      obtain ⟨z, hzz⟩ : ∃ z, sizeE e = z := ⟨_, rfl⟩
      rw [hzz] at kr hans hse
      have HANS := Lib.hid hans
      have hw1 : IntKind.i64.wrap ((m : Int) + (z : Int)) = (m : Int) + (z : Int) := by rw [IntKind.wrap_i64]; omega
      clear hsrc hcells he hu m1 hzz hans
      unfold elA at kr
      go_wp2_with (refine wpList_loadRow rfl 76 (.tmp 5) rfl wr.heap.size 76 _ (0, 0) (by rfl) (alloc_at _ _ _ rfl) _ Tryz.underlying76 rfl (by rfl) ?_)
      refine Calls.mono (show Calls _ _ _ _ _ from kr) ?_
      rintro e5 w5 ⟨rfl, hb5⟩
      have HB5 := Lib.hid (HB4.out.trans (hb5.mono (by omega)))
      clear hb5 kr
      go_wp2_with fail
      exact ⟨⟨k + 1, min (m + z) 65537, by go_num, by rw [show (min ((m : Int) + (z : Int)) 65537) = ((min (m + z) 65537 : Nat) : Int) by omega], by omega, by omega, HB5.out, HANS.out⟩, by simp [RowKit.intOf]; omega⟩
    · obtain rfl : k = el.kids.length := by omega
      rw [List.drop_of_length_le (Nat.le_refl _)] at hans
      simp only [sizeL] at hans
      subst hans
      have hmin : ((min m 65537 : Nat) : Int) = min (m : Int) 65537 := by omega
      rw [hmin] at klen
      clear hmin
      have kl := klen wr
      clear klen
      have i3 : decide ((el.kids.length : Int) < (el.kids.length : Int)) = false := decide_eq_false (by omega)
      go_wp2_with fail
      refine Calls.mono (show Calls _ _ _ _ _ from kl) ?_
      rintro e5 w5 ⟨rfl, hb5⟩
      obtain ⟨q, hq⟩ : ∃ q, L.length = q := ⟨_, rfl⟩
      have hres := HRES.out
      rw [hq] at hL4 hres
      have hw1 : IntKind.i64.wrap (1 + (q : Int)) = 1 + (q : Int) := by rw [IntKind.wrap_i64]; omega
      have hw2 : IntKind.i64.wrap (1 + (q : Int) + (m : Int)) = 1 + (q : Int) + (m : Int) := by rw [IntKind.wrap_i64]; omega
      have hfin : (min (1 + (q : Int) + (m : Int)) 65537) = (R : Int) := by omega
      have HF := Lib.hid hfin
      have b5 := b1.trans ((hbe.trans (hb5.mono hbe.size)).mono b1.size)
      clear hres hfin kl hb5
      go_wp2_with fail
      go_ret
      exact ⟨by rw [HF.out]; rfl, b5⟩
end Go.Proofs.YtaojidcneocelaaGreatDoor
