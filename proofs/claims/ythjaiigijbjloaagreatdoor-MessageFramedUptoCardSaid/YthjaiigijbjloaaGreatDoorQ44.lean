/- WrA, FrA, PlainRed, RdA. -/
import Derived.Test.YthjaiigijbjloaaGreatDoorQ43
namespace Go.Proofs.YthjaiigijbjloaaGreatDoor
open Go.RowKit Go.Lib
theorem sm_op {m : Mg} {l : Ls} (hk : LsOk m l) (hv : validB m l = true) : SmE (opE m l) := by
 obtain ⟨hkb, _, _⟩ := valid_parts hv
 have d1 := hk.dn
 have d2 := hk.secret
 have d3 := hk.newRdn
 have d4 := hk.newSup
 have d5 := hk.typ
 have d6 := hk.value
 have d7 := hk.oid
 have d8 : (blB m.delOld).length = 1 := by cases m.delOld <;> rfl
 by_cases h0 : m.op = 0
 ·have h1 := (sgB_len m.ver.toNat).2
  simp only [opE, h0, if_true, secretE]
  split <;> simp [SmE, SmL] <;> omega
 by_cases h2 : m.op = 2
 ·simp [opE, h2, SmE, SmL]
 by_cases h3 : m.op = 3
 ·have hkb2 : (rngB m.scope 2 && rngB m.deref 3 && rngB m.size 2147483647 && rngB m.time 2147483647 && filtB l.filt) = true := by simpa [kindB, h3] using hkb
  simp only [Bool.and_eq_true, rngB, decide_eq_true_eq, filtB] at hkb2
  obtain ⟨⟨⟨⟨h1, h2⟩, h3'⟩, h4⟩, h5, h6⟩ := hkb2
  have hw : wholeB 20 l.filt = some [] := by
   split at h6
   ·assumption
   ·cases h6
  have e : opE m l = .mk 1 3 true [] (searchK m.dn m.scope.toNat m.deref.toNat m.size.toNat m.time.toNat m.types (fltE 20 l.filt).1 l.sel) := by simp [opE, h3]
  rw [e]
  simp only [SmE]
  exact ⟨by simp, by simp [searchK], sm_search _ _ _ _ _ _ _ _ (by omega) (sm_flt 20 l.filt [] (fun p hp => (hk.filt.2 p hp).1) h5 hw) hk.sels (by have := hk.sel; omega)⟩
 by_cases h6 : m.op = 6
 ·have hr : l.mods.all (fun x => rngB x.1 2) = true := by simpa [kindB, h6] using hkb
  have hs := sm_modsE hk hr
  have e : opE m l = .mk 1 6 true [] [.mk 0 4 false m.dn [], .mk 0 16 true [] ((natM l.mods).map modE)] := by simp [opE, h6]
  rw [e]
  simp only [SmE, SmL] at hs ⊢
  simp at hs ⊢
  exact ⟨by omega, hs⟩
 by_cases h8 : m.op = 8 ∨ m.op = 4
 ·have hs := sm_attrsE hk
  have e : opE m l = .mk 1 m.op true [] [.mk 0 4 false m.dn [], .mk 0 16 true [] (l.attrs.map attrE)] := by simp only [opE, h0, h2, h3, h6, h8, if_true, if_false]
  rw [e]
  simp only [SmE, SmL] at hs ⊢
  simp at hs ⊢
  exact ⟨by omega, hs⟩
 by_cases h10 : m.op = 10
 ·simp [opE, h10, SmE, SmL]; omega
 by_cases h12 : m.op = 12
 ·simp only [opE, h12]
  simp
  split <;> simp [SmE, SmL] <;> omega
 by_cases h14 : m.op = 14
 ·simp [opE, h14, SmE, SmL]; omega
 by_cases h16 : m.op = 16
 ·have h1 := (sgB_len m.target.toNat).2
  simp [opE, h16, SmE, SmL]; omega
 by_cases h23 : m.op = 23
 ·simp only [opE, h23]
  simp
  split <;> simp [SmE, SmL] <;> omega
 have hn : m.op ∉ ([0, 2, 3, 6, 8, 4, 10, 12, 14, 16, 23] : List Int) := by
  simp only [List.mem_cons, List.not_mem_nil, or_false, not_or] at h8 ⊢
  exact ⟨h0, h2, h3, h6, h8.1, h8.2, h10, h12, h14, h16, h23⟩
 obtain ⟨hc0, hc1⟩ := kind_none hkb hn
 obtain ⟨hs1, hs2⟩ := sm_answer hk (by omega)
 have e : opE m l = .mk 1 m.op true [] (answerK m) := by simp only [opE, h0, h2, h3, h6, h8, h10, h12, h14, h16, h23, if_false]
 rw [e]
 simp only [SmE]
 exact ⟨by simp, by omega, hs1⟩
theorem sm_msg {m : Mg} {l : Ls} (hk : LsOk m l) (hv : validB m l = true) : SmE (msgE m l) := by
 have h1 := sm_op hk hv
 have h2 := (sgB_len m.id.toNat).2
 have h3 := sm_ctls l.ctl hk.ctls
 have h4 := hk.ctl
 unfold msgE msgK
 simp only [SmE]
 refine ⟨by simp, by split <;> simp, sm_app _ _ ?_ ?_⟩
 ·simp only [SmL]
  exact ⟨by simp [SmE, SmL]; omega, h1, trivial⟩
 ·split
  ·trivial
  ·simp only [SmL, SmE, List.length_map]
   exact ⟨⟨by simp, by omega, h3⟩, trivial⟩
def writeM (m : Mg) (l : Ls) : List UInt8 × Int := if validB m l then writeE (msgE m l) else ([], 70)
set_option maxRecDepth 100000 in
set_option maxHeartbeats 2000000 in
theorem Write_bad (A : Array Value) (hsz : A.size = 28) (w : World)
  (hval : ∀ w', Below w.heap.size w w' → Calls Tryz.prog 14 #[.agg A] w' fun e w'' => e = .returned (.bool false) ∧ Below w'.heap.size w' w'') :
  Calls Tryz.prog 12 #[.agg A] w fun e w' => e = .returned (.tuple #[.string ⟨#[]⟩, .int .i64 70]) ∧ Below w.heap.size w w' := by
 have b1 : Below w.heap.size w (w.alloc (.cells A 28)) := (Below.refl _ _).alloc (Nat.le_refl _) _
 have m1 : (w.alloc (.cells A 28)).heap[w.heap.size]? = some (.cells A 28 (0, 0)) := alloc_at _ _ _ rfl
 have HS := hid hsz
 have kv := hval _ b1
 clear hsz hval
 go_enter Tryz.func12, Tryz.ntmps12
 go_upto_region 1 with fail
 generalize w.alloc (.cells A 28) = w1 at b1 m1 kv ⊢
 go_wp2_with (refine wpList_loadRow rfl 28 (.tmp 1) rfl w.heap.size 28 _ (0, 0) (by rfl) m1 _ Tryz.underlying28 rfl (by rw [HS.out]; rfl) ?_)
 refine Calls.mono kv ?_
 rintro e w2 ⟨rfl, hb2⟩
 have b2 := b1.trans (hb2.mono b1.size)
 clear kv hb2 b1 m1
 go_wp2_with fail
 go_ret2
 exact ⟨rfl, b2⟩
theorem Write_any (m : Mg) (l : Ls) (w : World) (hm : MgM w m l) (hk : LsOk m l) (hE : Env w) :
  Calls Tryz.prog 12 #[.agg m.row] w fun e w' => e = .returned (.tuple #[.string ⟨(writeM m l).1.toArray⟩, .int .i64 (writeM m l).2]) ∧ Below w.heap.size w w' := by
 have kv : ∀ w', Below w.heap.size w w' → Calls Tryz.prog 14 #[.agg m.row] w' fun e w'' => e = .returned (.bool (validB m l)) ∧ Below w'.heap.size w' w'' := fun w' hb =>
  valid_any m l w' (hm.below hb) (by have := hk.mods; omega) (by have := hk.ctl; omega) (fun _ w2 hb2 => FValid_any l.filt m.filt w2 ((hm.filt.below hb).below hb2) hk.filt ((hE.below hb).below hb2))
 unfold writeM
 cases hv : validB m l with
 | false =>
  rw [hv] at kv
  exact Write_bad m.row rfl w kv
 | true =>
  rw [hv] at kv
  have hid := (valid_parts hv).2.1
  exact Write_of 65537 length_any m.row rfl (msgE m l) (sm_msg hk hv) (sizeE_le _) w kv (fun w' hb => element_any m l w' (hm.below hb) hk hid (opE m l) (sm_op hk hv) (fun w2 hb2 => op_any m l w2 ((hm.below hb).below hb2) hk hv) (msgK m l) rfl)
def lightB (l : Ls) : Bool := decide (l.filt.length ≤ 150) && decide (l.attrs.length ≤ 200) && decide (l.mods.length ≤ 200) && decide (l.ctl.length ≤ 200) && decide (l.sel.length ≤ 500)
set_option maxRecDepth 100000 in
set_option maxHeartbeats 4000000 in
theorem light9_any (m : Mg) (l : Ls) (w : World) (hm : MgM w m l) :
  Calls Tryz.prog 9 #[.agg m.row] w fun e w' => e = .returned (.bool (lightB l)) ∧ Below w.heap.size w w' := by
 obtain ⟨a1, c1, e1⟩ := hm.filt.shape
 obtain ⟨a2, c2, e2, -, -⟩ := hm.sel
 obtain ⟨a3, c3, e3, -, -⟩ := hm.mods
 obtain ⟨a4, c4, e4, -, -⟩ := hm.attrs
 obtain ⟨a5, c5, e5, -, -⟩ := hm.ctl
 obtain ⟨R, hR⟩ : ∃ R, lightB l = R := ⟨_, rfl⟩
 rw [hR]
 unfold lightB at hR
 obtain ⟨nF, hF⟩ : ∃ n, l.filt.length = n := ⟨_, rfl⟩
 obtain ⟨nS, hS⟩ : ∃ n, l.sel.length = n := ⟨_, rfl⟩
 obtain ⟨nM, hM⟩ : ∃ n, l.mods.length = n := ⟨_, rfl⟩
 obtain ⟨nA, hA⟩ : ∃ n, l.attrs.length = n := ⟨_, rfl⟩
 obtain ⟨nC, hC⟩ : ∃ n, l.ctl.length = n := ⟨_, rfl⟩
 rw [hF] at e1 hR
 rw [hS] at e2 hR
 rw [hM] at e3 hR
 rw [hA] at e4 hR
 rw [hC] at e5 hR
 clear hF hS hM hA hC
 obtain ⟨B, hB⟩ : ∃ B, m.row = B := ⟨_, rfl⟩
 have g11 : B[11]? = some (.slice a1 nF c1) := by rw [← hB]; simp [Mg.row, e1]
 have g12 : B[12]? = some (.slice a2 nS c2) := by rw [← hB]; simp [Mg.row, e2]
 have g13 : B[13]? = some (.slice a3 nM c3) := by rw [← hB]; simp [Mg.row, e3]
 have g14 : B[14]? = some (.slice a4 nA c4) := by rw [← hB]; simp [Mg.row, e4]
 have g27 : B[27]? = some (.slice a5 nC c5) := by rw [← hB]; simp [Mg.row, e5]
 rw [hB]
 clear hB e1 e2 e3 e4 e5 hm
 have b1 : Below w.heap.size w (w.alloc (.cells B 28)) := (Below.refl _ _).alloc (Nat.le_refl _) _
 have r1 : (w.alloc (.cells B 28)).heap[w.heap.size]? = some (.cells B 28 (0, 0)) := alloc_at _ _ _ rfl
 go_enter Tryz.func9, Tryz.ntmps9
 go_upto_region 1 with fail
 generalize w.alloc (.cells B 28) = w1 at b1 r1 ⊢
 have q11 := (cell_of_heap r1 11).trans g11
 have q12 := (cell_of_heap r1 12).trans g12
 have q13 := (cell_of_heap r1 13).trans g13
 have q14 := (cell_of_heap r1 14).trans g14
 have q27 := (cell_of_heap r1 27).trans g27
 clear r1 g11 g12 g13 g14 g27
 by_cases h0 : nF ≤ 150
 ·have d0 : decide ((nF : Int) ≤ 150) = true := decide_eq_true (by omega)
  have i0 : (nF : Int) ≤ 150 := by omega
  by_cases h1 : nA ≤ 200
  ·have d1 : decide ((nA : Int) ≤ 200) = true := decide_eq_true (by omega)
   have i1 : (nA : Int) ≤ 200 := by omega
   by_cases h2 : nM ≤ 200
   ·have d2 : decide ((nM : Int) ≤ 200) = true := decide_eq_true (by omega)
    have i2 : (nM : Int) ≤ 200 := by omega
    by_cases h3 : nC ≤ 200
    ·have d3 : decide ((nC : Int) ≤ 200) = true := decide_eq_true (by omega)
     have i3 : (nC : Int) ≤ 200 := by omega
     by_cases h4 : nS ≤ 500
     ·have d4 : decide ((nS : Int) ≤ 500) = true := decide_eq_true (by omega)
      have i4 : (nS : Int) ≤ 500 := by omega
      obtain rfl : R = true := by rw [← hR]; simp [h0, h1, h2, h3, h4]
      clear hR
      go_wp2_with fail
      go_ret
      exact ⟨rfl, b1⟩
     ·have d4 : decide ((nS : Int) ≤ 500) = false := decide_eq_false (by omega)
      have i4 : ¬ ((nS : Int) ≤ 500) := by omega
      have j4 : 500 < (nS : Int) := by omega
      obtain rfl : R = false := by rw [← hR]; simp [h0, h1, h2, h3, h4]
      clear hR
      go_wp2_with fail
      go_ret
      exact ⟨rfl, b1⟩
    ·have d3 : decide ((nC : Int) ≤ 200) = false := decide_eq_false (by omega)
     have i3 : ¬ ((nC : Int) ≤ 200) := by omega
     have j3 : 200 < (nC : Int) := by omega
     obtain rfl : R = false := by rw [← hR]; simp [h0, h1, h2, h3]
     clear hR
     go_wp2_with fail
     go_ret
     exact ⟨rfl, b1⟩
   ·have d2 : decide ((nM : Int) ≤ 200) = false := decide_eq_false (by omega)
    have i2 : ¬ ((nM : Int) ≤ 200) := by omega
    have j2 : 200 < (nM : Int) := by omega
    obtain rfl : R = false := by rw [← hR]; simp [h0, h1, h2]
    clear hR
    go_wp2_with fail
    go_ret
    exact ⟨rfl, b1⟩
  ·have d1 : decide ((nA : Int) ≤ 200) = false := decide_eq_false (by omega)
   have i1 : ¬ ((nA : Int) ≤ 200) := by omega
   have j1 : 200 < (nA : Int) := by omega
   obtain rfl : R = false := by rw [← hR]; simp [h0, h1]
   clear hR
   go_wp2_with fail
   go_ret
   exact ⟨rfl, b1⟩
 ·have d0 : decide ((nF : Int) ≤ 150) = false := decide_eq_false (by omega)
  have i0 : ¬ ((nF : Int) ≤ 150) := by omega
  have j0 : 150 < (nF : Int) := by omega
  obtain rfl : R = false := by rw [← hR]; simp [h0]
  clear hR
  go_wp2_with fail
  go_ret
  exact ⟨rfl, b1⟩
def numR (l : List UInt8) : Nat := l.foldl (fun v b => v * 256 + b.toNat) 0
def headB : List UInt8 → Nat × Nat × Int
 | [] => (0, 0, 20)
 | b0 :: r => if 30 < b0.toNat % 32 then (0, 0, 21) else match r with
  | [] => (0, 0, 20)
  | b1 :: r2 => if b1.toNat < 128 then (2, b1.toNat, 0)
   else if b1.toNat - 128 < 1 ∨ 4 < b1.toNat - 128 then (0, 0, 22)
   else if r2.length < b1.toNat - 128 then (0, 0, 20)
   else if 65536 < 2 + (b1.toNat - 128) + numR (r2.take (b1.toNat - 128)) then (0, 0, 2)
   else (2 + (b1.toNat - 128), numR (r2.take (b1.toNat - 128)), 0)
def kidsR (g : List UInt8 → Except Int (El × List UInt8)) : Nat → List UInt8 → Except Int (List El)
 | _, [] => .ok []
 | 0, _ :: _ => .ok []
 | n + 1, b :: t => match g (b :: t) with
  | .error e => .error e
  | .ok (k, c) => match kidsR g n c with
   | .error e => .error e
   | .ok ks => .ok (k :: ks)
def readR : Nat → List UInt8 → Except Int (El × List UInt8)
 | 0, b => if (headB b).2.2 = 0 then .error 23 else .error (headB b).2.2
 | k + 1, b => if (headB b).2.2 = 0 then
   if b.length < (headB b).1 + (headB b).2.1 then .error 20
   else if (b.headD 0).toNat / 32 % 2 = 0 then .ok (.mk (((b.headD 0).toNat / 64 : Nat) : Int) (((b.headD 0).toNat % 32 : Nat) : Int) false ((b.drop (headB b).1).take (headB b).2.1) [], b.drop ((headB b).1 + (headB b).2.1))
   else match kidsR (readR k) ((b.drop (headB b).1).take (headB b).2.1).length ((b.drop (headB b).1).take (headB b).2.1) with
    | .error e => .error e
    | .ok ks => .ok (.mk (((b.headD 0).toNat / 64 : Nat) : Int) (((b.headD 0).toNat % 32 : Nat) : Int) true [] ks, b.drop ((headB b).1 + (headB b).2.1))
  else .error (headB b).2.2
def readE (b : List UInt8) : Except Int El := match readR 20 b with
 | .error e => .error e
 | .ok (e, []) => .ok e
 | .ok (_, _ :: _) => .error 25
theorem headB_ge (b : List UInt8) (h : (headB b).2.2 = 0) : 2 ≤ (headB b).1 := by
 unfold headB at *
 split at h
 ·simp at h
 ·rename_i b0 r
  split at h
  ·simp at h
  ·rename_i h1
   simp only [h1, if_false]
   cases r with
   | nil => simp at h
   | cons b1 r2 =>
    simp only at h ⊢
    split
    ·simp
    ·rename_i h2
     simp only [h2, if_false] at h
     split
     ·rename_i h3; rw [if_pos h3] at h; simp at h
     ·rename_i h3
      simp only [h3, if_false] at h
      split
      ·rename_i h4; rw [if_pos h4] at h; simp at h
      ·rename_i h4
       simp only [h4, if_false] at h
       split
       ·rename_i h5; rw [if_pos h5] at h; simp at h
       ·simp
theorem headB_le (b : List UInt8) : (headB b).1 + (headB b).2.1 ≤ 65536 := by
 unfold headB
 split
 ·simp
 ·split
  ·simp
  ·split
   ·simp
   ·rename_i b1 r2
    have := UInt8.toNat_lt b1
    split
    ·simp only; omega
    ·split
     ·simp
     ·split
      ·simp
      ·split
       ·simp
       ·simp only; omega
theorem headB_le6 (b : List UInt8) : (headB b).1 ≤ 6 := by
 unfold headB
 split
 ·simp
 ·split
  ·simp
  ·split
   ·simp
   ·split
    ·simp
    ·split
     ·simp
     ·rename_i h3
      split
      ·simp
      ·split
       ·simp
       ·simp only [not_or] at h3 ⊢; omega
theorem readR_lt : ∀ (k : Nat) (b : List UInt8) (e : El) (r : List UInt8), readR k b = .ok (e, r) → r.length < b.length
 | 0, b, e, r, h => by
  unfold readR at h
  split at h <;> cases h
 | k + 1, b, e, r, h => by
  unfold readR at h
  by_cases h0 : (headB b).2.2 = 0
  ·have h2 := headB_ge b h0
   rw [if_pos h0] at h
   by_cases h1 : b.length < (headB b).1 + (headB b).2.1
   ·rw [if_pos h1] at h; cases h
   ·rw [if_neg h1] at h
    have : r = b.drop ((headB b).1 + (headB b).2.1) := by
     split at h
     ·cases h; rfl
     ·split at h <;> cases h; rfl
    rw [this, List.length_drop]
    omega
  ·rw [if_neg h0] at h; cases h
theorem kidsR_fuel {g : List UInt8 → Except Int (El × List UInt8)} (hg : ∀ b e r, g b = .ok (e, r) → r.length < b.length) : ∀ (n : Nat) (c : List UInt8), c.length ≤ n → kidsR g n c = kidsR g c.length c
 | 0, c, h => by
  have : c = [] := List.length_eq_zero_iff.1 (by omega)
  subst this; rfl
 | n + 1, [], _ => by simp [kidsR]
 | n + 1, b :: t, h => by
  simp only [List.length_cons] at h ⊢
  unfold kidsR
  cases hr : g (b :: t) with
  | error e => rfl
  | ok p =>
   obtain ⟨k, c⟩ := p
   have h2 := hg _ _ _ hr
   simp only [List.length_cons] at h2
   simp only
   rw [kidsR_fuel hg n c (by omega), kidsR_fuel hg t.length c (by omega)]
theorem kidsR_cons {g : List UInt8 → Except Int (El × List UInt8)} (hg : ∀ b e r, g b = .ok (e, r) → r.length < b.length) (b : UInt8) (t : List UInt8) :
  kidsR g (b :: t).length (b :: t) = (match g (b :: t) with | .error e => .error e | .ok (k, c) => match kidsR g c.length c with | .error e => .error e | .ok ks => .ok (k :: ks)) := by
 simp only [List.length_cons, kidsR]
 cases hr : g (b :: t) with
 | error e => rfl
 | ok p =>
  obtain ⟨k, c⟩ := p
  have h2 := hg _ _ _ hr
  simp only [List.length_cons] at h2
  simp only
  rw [kidsR_fuel hg t.length c (by omega)]
/- What is written. -/
theorem lenB_lenR (n : Nat) : 1 ≤ (lenB n).length ∧ (lenB n).length ≤ 4 := by
 unfold lenB; split
 ·simp
 ·split
  ·simp
  ·split <;> simp
theorem sizeL_geR : ∀ (ks : List El) (n : Nat), n ≤ 65537 → n ≤ sizeL n ks ∧ sizeL n ks ≤ 65537
 | [], n, h => ⟨Nat.le_refl _, h⟩
 | e :: r, n, h => by
  have := sizeL_geR r (min (n + sizeE e) 65537) (by omega)
  unfold sizeL
  omega
theorem sizeE_posR (e : El) : 2 ≤ sizeE e := by
 cases e with
 | mk c t k b ks =>
  unfold sizeE
  have h := (lenB_lenR (min (sizeL b.length ks) 65537)).1
  omega
theorem sizeL_sumR : ∀ (ks : List El) (n : Nat), sizeL n ks ≤ 65536 → sizeL n ks = n + sumE ks
 | [], n, _ => by simp [sizeL, sumE]
 | e :: r, n, h => by
  unfold sizeL at h ⊢
  have h1 := sizeL_geR r (min (n + sizeE e) 65537) (by omega)
  have h2 := sizeL_sumR r (min (n + sizeE e) 65537) h
  rw [h2]
  simp only [sumE]
  omega
mutual
theorem putE_lenR : ∀ e : El, sizeE e ≤ 65536 → (putE e).length = sizeE e
 | .mk c t k b ks => by
  intro h
  have hs : sizeL b.length ks ≤ 65536 := by
   unfold sizeE at h
   have := (lenB_lenR (min (sizeL b.length ks) 65537)).1
   omega
  have h1 := sizeL_sumR ks b.length hs
  have h2 : sumE ks ≤ 65536 := by omega
  have h3 := putL_lenR ks h2
  have h4 : sizeE (.mk c t k b ks) = 1 + (lenB (b.length + sumE ks)).length + (b.length + sumE ks) := by
   unfold sizeE at h ⊢
   rw [Nat.min_eq_left (show sizeL b.length ks ≤ 65537 by omega), h1] at h ⊢
   omega
  rw [h4]
  simp only [putE, List.length_append, List.length_cons, h3]
  omega
theorem putL_lenR : ∀ ks : List El, sumE ks ≤ 65536 → (putL ks).length = sumE ks
 | [] => fun _ => rfl
 | e :: r => by
  intro h
  simp only [sumE] at h
  have h1 := putE_lenR e (by omega)
  have h2 := putL_lenR r (by omega)
  simp only [putL, sumE, List.length_append, h1, h2]
end
theorem u8nR {n : Nat} (h : n < 256) : (UInt8.ofNat n).toNat = n := by simp [UInt8.toNat_ofNat']; omega
theorem headB_put (x : UInt8) (n : Nat) (r : List UInt8) (hx : x.toNat % 32 ≤ 30) (hn : 1 + (lenB n).length + n ≤ 65536) : headB (x :: (lenB n ++ r)) = (1 + (lenB n).length, n, 0) := by
 have h0 : ¬ 30 < x.toNat % 32 := by omega
 unfold headB
 simp only [h0, if_false]
 by_cases h1 : n < 128
 ·have e : lenB n = [UInt8.ofNat n] := by simp [lenB, h1]
  rw [e] at hn ⊢
  simp only [List.cons_append, List.nil_append, List.length_cons, List.length_nil]
  rw [u8nR (by omega), if_pos h1]
 ·by_cases h2 : n < 256
  ·have e : lenB n = [129, UInt8.ofNat n] := by simp [lenB, h1, h2]
   have e1 : (129 : UInt8).toNat = 129 := rfl
   rw [e] at hn ⊢
   simp only [List.cons_append, List.nil_append, List.length_cons, List.length_nil] at hn ⊢
   rw [e1]
   simp [numR, u8nR h2]
   omega
  ·by_cases h3 : n < 65536
   ·have e : lenB n = [130, UInt8.ofNat (n / 256), UInt8.ofNat n] := by simp [lenB, h1, h2, h3]
    have e1 : (130 : UInt8).toNat = 130 := rfl
    have e2 : (UInt8.ofNat n).toNat = n % 256 := by simp [UInt8.toNat_ofNat']
    have e3 : (UInt8.ofNat (n / 256)).toNat = n / 256 := u8nR (by omega)
    rw [e] at hn ⊢
    simp only [List.cons_append, List.nil_append, List.length_cons, List.length_nil] at hn ⊢
    rw [e1]
    have e4 : n / 256 * 256 + n % 256 = n := by omega
    simp only [List.take_succ_cons, List.take_zero, numR, List.foldl_cons, List.foldl_nil, e2, e3, Nat.reduceSub, Nat.zero_mul, Nat.zero_add, e4, List.length_cons]
    simp
    rw [if_neg (by omega), if_neg (by omega)]
   ·have := (lenB_lenR n).1
    omega
mutual
def okE : Nat → El → Bool
 | d, .mk c t k b ks => match d with
  | 0 => false
  | d + 1 => decide (0 ≤ c) && decide (c ≤ 3) && decide (0 ≤ t) && decide (t ≤ 30) && (if k then decide (b = []) else decide (ks = [])) && okL d ks
def okL : Nat → List El → Bool
 | _, [] => true
 | d, e :: r => okE d e && okL d r
end
theorem head_byte (c t : Int) (k : Bool) (hc : 0 ≤ c ∧ c ≤ 3) (ht : 0 ≤ t ∧ t ≤ 30) :
  ((UInt8.ofNat (c.toNat * 64 + t.toNat + (if k then 32 else 0))).toNat / 64 : Nat) = c ∧ ((UInt8.ofNat (c.toNat * 64 + t.toNat + (if k then 32 else 0))).toNat % 32 : Nat) = t ∧ (UInt8.ofNat (c.toNat * 64 + t.toNat + (if k then 32 else 0))).toNat / 32 % 2 = (if k then 1 else 0) := by
 rw [u8nR (by split <;> omega)]
 cases k <;> simp <;> omega
mutual
theorem readR_put : ∀ (e : El) (d : Nat) (rest : List UInt8), okE d e = true → sizeE e ≤ 65536 → readR d (putE e ++ rest) = .ok (e, rest)
 | .mk c t k b ks => by
  intro d rest ho hs
  cases d with
  | zero => simp [okE] at ho
  | succ d =>
   simp only [okE, Bool.and_eq_true, decide_eq_true_eq] at ho
   obtain ⟨⟨⟨⟨⟨c0, c1⟩, t0⟩, t1⟩, hf⟩, hk⟩ := ho
   have hs1 : sizeL b.length ks ≤ 65536 := by
    unfold sizeE at hs
    have := (lenB_lenR (min (sizeL b.length ks) 65537)).1
    omega
   have h1 := sizeL_sumR ks b.length hs1
   have h2 : sumE ks ≤ 65536 := by omega
   have h3 := putL_lenR ks h2
   have h4 : 1 + (lenB (b.length + sumE ks)).length + (b.length + sumE ks) ≤ 65536 := by
    unfold sizeE at hs
    rw [Nat.min_eq_left (show sizeL b.length ks ≤ 65537 by omega), h1] at hs
    omega
   obtain ⟨g1, g2, g3⟩ := head_byte c t k ⟨c0, c1⟩ ⟨t0, t1⟩
   obtain ⟨x, hx⟩ : ∃ x, UInt8.ofNat (c.toNat * 64 + t.toNat + (if k then 32 else 0)) = x := ⟨_, rfl⟩
   rw [hx] at g1 g2 g3
   have hS : putE (.mk c t k b ks) ++ rest = x :: (lenB (b.length + sumE ks) ++ (b ++ putL ks ++ rest)) := by simp [putE, hx]
   have hh := headB_put x (b.length + sumE ks) (b ++ putL ks ++ rest) (by omega) h4
   rw [hS]
   unfold readR
   rw [hh]
   simp only [if_true, List.headD_cons]
   have e1 : List.drop (1 + (lenB (b.length + sumE ks)).length) (x :: (lenB (b.length + sumE ks) ++ (b ++ putL ks ++ rest))) = b ++ putL ks ++ rest := by
    rw [Nat.add_comm, List.drop_succ_cons, List.drop_left]
   have e2 : List.drop (1 + (lenB (b.length + sumE ks)).length + (b.length + sumE ks)) (x :: (lenB (b.length + sumE ks) ++ (b ++ putL ks ++ rest))) = rest := by
    rw [← List.drop_drop, e1, ← h3, ← List.length_append, List.drop_left]
   have e3 : List.take (b.length + sumE ks) (b ++ putL ks ++ rest) = b ++ putL ks := by
    rw [← h3, ← List.length_append, List.take_left]
   rw [e1, e2, e3, if_neg (by simp only [List.length_cons, List.length_append, h3]; omega)]
   simp only [g1, g2, g3]
   cases k with
   | false =>
    simp only [Bool.false_eq_true, if_false, decide_eq_true_eq] at hf
    subst hf
    simp [putL]
   | true =>
    simp only [if_true, decide_eq_true_eq] at hf
    subst hf
    simp only [if_true, List.nil_append]
    rw [if_neg (by decide), kidsR_put ks d (putL ks).length hk h2 (Nat.le_refl _)]
theorem kidsR_put : ∀ (ks : List El) (d n : Nat), okL d ks = true → sumE ks ≤ 65536 → (putL ks).length ≤ n → kidsR (readR d) n (putL ks) = .ok ks
 | [] => by intro d n _ _ _; unfold putL kidsR; rfl
 | e :: r => by
  intro d n ho hs hn
  simp only [okL, Bool.and_eq_true] at ho
  simp only [sumE] at hs
  have he := readR_put e d (putL r) ho.1 (by omega)
  have hl := putE_lenR e (by omega)
  have hp := sizeE_posR e
  simp only [putL, List.length_append, hl] at hn
  obtain ⟨n, rfl⟩ : ∃ m, n = m + 1 := ⟨n - 1, by omega⟩
  have hr := kidsR_put r d n ho.2 (by omega) (by omega)
  obtain ⟨y, t, hy⟩ : ∃ y t, putE e ++ putL r = y :: t := by
   cases e with
   | mk c t k b ks => simp only [putE, List.cons_append]; exact ⟨_, _, rfl⟩
  simp only [putL]
  rw [hy] at he ⊢
  unfold kidsR
  rw [he]
  simp only [hr]
end
mutual
theorem okE_of : ∀ (e : El) (d f : Nat), f + d = 20 → eachE hasTagE d e = true → eachE hasFormE d e = true → deepE d e = false → okE f e = true
 | .mk c t k b ks => by
  intro d f hf h1 h2 h3
  unfold eachE at h1 h2
  unfold deepE at h3
  by_cases hd : 20 ≤ d
  ·rw [if_pos hd] at h3; cases h3
  ·rw [if_neg hd] at h1 h2 h3
   obtain ⟨f, rfl⟩ : ∃ g, f = g + 1 := ⟨f - 1, by omega⟩
   simp only [Bool.and_eq_true] at h1 h2
   have := okL_of ks (d + 1) f (by omega) h1.2 h2.2 h3
   simp only [okE]
   rw [this]
   have e1 : (decide (0 ≤ c) && decide (c ≤ 3) && decide (0 ≤ t) && decide (t ≤ 30)) = true := h1.1
   have e2 : (if k = true then decide (b = []) else decide (ks = [])) = true := h2.1
   rw [e1, e2]
   rfl
theorem okL_of : ∀ (ks : List El) (d f : Nat), f + d = 20 → eachL hasTagE d ks = true → eachL hasFormE d ks = true → deepL d ks = false → okL f ks = true
 | [] => by intro d f _ _ _ _; rfl
 | e :: r => by
  intro d f hf h1 h2 h3
  simp only [eachL, Bool.and_eq_true] at h1 h2
  simp only [deepL, Bool.or_eq_false_iff] at h3
  simp only [okL, Bool.and_eq_true]
  exact ⟨okE_of e d f hf h1.1 h2.1 h3.1, okL_of r d f hf h1.2 h2.2 h3.2⟩
end
theorem readE_write (e : El) (h : (writeE e).2 = 0) : readE (writeE e).1 = .ok e ∧ (writeE e).1 = putE e ∧ (putE e).length = sizeE e ∧ sizeE e ≤ 65536 ∧ okE 20 e = true := by
 unfold writeE at h ⊢
 by_cases h1 : eachE hasTagE 0 e = false
 ·rw [if_pos h1] at h; simp at h
 ·rw [if_neg h1] at h ⊢
  by_cases h2 : eachE hasFormE 0 e = false
  ·rw [if_pos h2] at h; simp at h
  ·rw [if_neg h2] at h ⊢
   by_cases h3 : deepE 0 e = true
   ·rw [if_pos h3] at h; simp at h
   ·rw [if_neg h3] at h ⊢
    by_cases h4 : 65536 < sizeE e
    ·rw [if_pos h4] at h; simp at h
    ·rw [if_neg h4]
     have ho := okE_of e 0 20 rfl (by simpa using h1) (by simpa using h2) (by simpa using h3)
     have hr := readR_put e 20 [] ho (by omega)
     rw [List.append_nil] at hr
     exact ⟨by unfold readE; simp only [hr], rfl, putE_lenR e (by omega), by omega, ho⟩
def frameB (b : List UInt8) : Nat × Int := ((headB b).1 + (headB b).2.1, (headB b).2.2)
theorem frame_write (e : El) (h : (writeE e).2 = 0) : frameB (writeE e).1 = ((writeE e).1.length, 0) := by
 obtain ⟨h1, h2, h3, h4, h5⟩ := readE_write e h
 rw [h2]
 have h6 := h3
 cases e with
 | mk c t k b ks =>
  have hs1 : sizeL b.length ks ≤ 65536 := by
   unfold sizeE at h4
   have := (lenB_lenR (min (sizeL b.length ks) 65537)).1
   omega
  have g1 := sizeL_sumR ks b.length hs1
  have g3 := putL_lenR ks (by omega)
  simp only [okE, Bool.and_eq_true, decide_eq_true_eq] at h5
  obtain ⟨⟨⟨⟨⟨c0, c1⟩, t0⟩, t1⟩, hf⟩, hk⟩ := h5
  obtain ⟨_, q2, _⟩ := head_byte c t k ⟨c0, c1⟩ ⟨t0, t1⟩
  have hS : putE (.mk c t k b ks) = UInt8.ofNat (c.toNat * 64 + t.toNat + (if k then 32 else 0)) :: (lenB (b.length + sumE ks) ++ (b ++ putL ks)) := by simp [putE]
  rw [hS] at h3 ⊢
  simp only [List.length_cons, List.length_append, g3] at h3
  unfold frameB
  rw [headB_put _ (b.length + sumE ks) (b ++ putL ks) (by omega) (by omega)]
  simp only [List.length_cons, List.length_append, g3]
  simp only [Prod.mk.injEq, and_true]
  omega
theorem or256 (N b : Nat) (h2 : N % 256 = 0) (hb : b < 256) : (N ||| b) = N + b := by
 have h := Nat.shiftLeft_add_eq_or_of_lt (i := 8) (b := b) hb (N / 256)
 have h5 : N / 256 * 2 ^ 8 = N := Nat.div_mul_cancel (Nat.dvd_of_mod_eq_zero h2)
 rw [Nat.shiftLeft_eq, h5] at h
 exact h.symm
theorem orLow (x : Int) (b : Nat) (hx : x % 256 = 0) (hb : b < 256) : bits BinOp.or IntKind.i64 x (b : Int) = IntKind.i64.wrap (x + b) := by
 obtain ⟨N, hN⟩ : ∃ N, (BitVec.ofInt 64 x).toNat = N := ⟨_, rfl⟩
 have h1 : (N : Int) = x % 18446744073709551616 := by rw [← hN]; simp; omega
 have h2 : N % 256 = 0 := by omega
 have h3 := or256 N b h2 hb
 have h4 : (BitVec.ofInt 64 (b : Int)).toNat = b := by simp; omega
 show IntKind.i64.wrap (((BitVec.ofInt 64 x ||| BitVec.ofInt 64 (b : Int)).toNat : Nat) : Int) = _
 rw [BitVec.toNat_or, hN, h4, h3]
 rw [IntKind.wrap_i64, IntKind.wrap_i64]
 omega
theorem str_at (l : List UInt8) (k : Nat) (c : UInt8) (h : l[k]? = some c) (hk : k < (⟨l.toArray⟩ : ByteArray).size) : (⟨l.toArray⟩ : ByteArray)[k]'hk = c := by
 obtain ⟨h1, h2⟩ := List.getElem?_eq_some_iff.1 h
 show l.toArray[k] = c
 simpa using h2
theorem numB_snoc (l : List UInt8) (c : UInt8) : numR (l ++ [c]) = numR l * 256 + c.toNat := by simp [numR]
theorem numB_lt : ∀ (n : Nat) (l : List UInt8), l.length = n → numR l < 256 ^ n
 | 0, l, h => by
  have : l = [] := List.length_eq_zero_iff.1 h
  subst this; simp [numR]
 | n + 1, l, h => by
  rcases List.eq_nil_or_concat l with h0 | ⟨r, c, h0⟩
  ·subst h0; simp at h
  ·rw [List.concat_eq_append] at h0
   subst h0
   have h1 := numB_lt n r (by simpa using h)
   have h2 := UInt8.toNat_lt c
   rw [numB_snoc, Nat.pow_succ]
   omega
def GetRel (w : World) (l : List UInt8) (v i : Value) (wr : World) : Prop := ∃ k : Nat, i = .int .i64 (k : Int) ∧ k ≤ l.length ∧ v = .int .i64 ((numR (l.take k) : Nat) : Int) ∧ wr = w
set_option maxRecDepth 100000 in
set_option maxHeartbeats 2000000 in
theorem Get_any (l : List UInt8) (h1 : 1 ≤ l.length) (h7 : l.length ≤ 6) (w : World) :
  Calls Tryz.prog 106 #[.string ⟨l.toArray⟩] w fun e w' => e = .returned (.tuple #[.int .i64 ((numR l : Nat) : Int), .int .i64 0]) ∧ w' = w := by
 have f1 : decide ((l.length : Int) < 1) = false := decide_eq_false (by omega)
 have f2 : decide ((7 : Int) < (l.length : Int)) = false := decide_eq_false (by omega)
 have f3 : decide ((l.length : Int) > 7) = false := decide_eq_false (by omega)
 go_enter Tryz.func106, Tryz.ntmps106
 go_wp2_with fail
 go_loopw [4, 5, 16] (fun v _ i wr => GetRel w l v i wr) (fun _ _ i _ => l.length - (RowKit.intOf i).toNat)
 case atStart => exact ⟨0, rfl, Nat.zero_le _, rfl, rfl⟩
 case round =>
  obtain ⟨k, rfl, hk, rfl, hw⟩ := hrel
  rw [hw]
  clear hw
  by_cases hkl : k < l.length
  ·obtain ⟨c, hc⟩ : ∃ c, l[k]? = some c := ⟨_, by simp [hkl]; rfl⟩
   have e0 := str_at l k c hc (by rw [Lib.size_mk]; omega)
   have i1 : decide ((k : Int) < (l.length : Int)) = true := decide_eq_true (by omega)
   have i2 : (k : Int) < (l.length : Int) := by omega
   have hts : numR (l.take (k + 1)) = numR (l.take k) * 256 + c.toNat := by rw [List.take_add_one, hc]; exact numB_snoc _ _
   have hlt := numB_lt k (l.take k) (by simp; omega)
   have hlt2 : numR (l.take k) < 256 ^ 5 := Nat.lt_of_lt_of_le hlt (Nat.pow_le_pow_right (by omega) (by omega))
   obtain ⟨V, hV⟩ : ∃ V, numR (l.take k) = V := ⟨_, rfl⟩
   rw [hV] at hts hlt2 ⊢
   have hc8 := UInt8.toNat_lt c
   have hw1 : IntKind.i64.wrap ((V : Int) * 256) = (V : Int) * 256 := by rw [IntKind.wrap_i64]; omega
   have hor : bits BinOp.or IntKind.i64 ((V : Int) * 256) (c.toNat : Int) = ((V * 256 + c.toNat : Nat) : Int) := by
    rw [orLow _ _ (by omega) hc8, IntKind.wrap_i64]; omega
   have HTS := hid hts
   clear hts hc hlt hV
   go_wp2_with fail
   exact ⟨⟨k + 1, by go_num, by omega, by rw [HTS.out]; exact congrArg _ (by omega), rfl⟩, by simp [RowKit.intOf]; omega⟩
  ·obtain rfl : k = l.length := by omega
   rw [List.take_of_length_le (Nat.le_refl _)]
   go_wp2_with fail
   go_ret2
   exact ⟨rfl, rfl⟩
end Go.Proofs.YthjaiigijbjloaaGreatDoor
