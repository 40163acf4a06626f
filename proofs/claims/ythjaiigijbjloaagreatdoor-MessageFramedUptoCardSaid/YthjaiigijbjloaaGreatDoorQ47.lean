/- RdE, RdF. -/
import Derived.Test.YthjaiigijbjloaaGreatDoorQ46
namespace Go.Proofs.YthjaiigijbjloaaGreatDoor
open Go.RowKit Go.Lib
set_option maxRecDepth 100000 in
set_option maxHeartbeats 2000000 in
theorem read_herr (S : List UInt8) (hl : S.length ≤ 1000000) (w : World) (d : Nat) (cc : Int) (hc : (headB S).2.2 = cc) (hc0 : cc ≠ 0) :
  Calls Tryz.prog 56 #[.string ⟨S.toArray⟩, .int .i64 (d : Int)] w fun e w' => e = .panicked [{ v := rerr cc, recovered := false }] ∧ Below w.heap.size w w' := by
 have b1 : Below w.heap.size w (w.alloc (.cells Ze 45)) := (Below.refl _ _).alloc (Nat.le_refl _) _
 have kh := head_any S (by omega) (w.alloc (.cells Ze 45))
 unfold HeadP at kh
 obtain ⟨n, m, c, hh⟩ : ∃ n m c, headB S = (n, m, c) := ⟨_, _, _, rfl⟩
 rw [hh] at hc
 simp only at hc
 subst hc
 have f0 : (c == 0) = false := beq_false_of_ne hc0
 have f1 : (c != 0) = true := by simp only [bne, f0]; rfl
 rw [hh] at kh
 simp only at kh
 have HH := hid hh
 clear hh
 unfold rerr
 go_enter Tryz.func56, Tryz.ntmps56
 go_wp2_with fail
 refine Calls.mono kh ?_
 rintro e w2 ⟨rfl, q, rfl⟩
 have b2 := bel_drwN b1 q
 clear kh b1
 generalize (w.alloc (.cells Ze 45)).drewN q = w2 at b2 ⊢
 go_wp2_with fail
 exact ⟨rfl, rfl, b2⟩
set_option maxRecDepth 100000 in
set_option maxHeartbeats 2000000 in
theorem read_hdeep (S : List UInt8) (hl : S.length ≤ 1000000) (w : World) (hc : (headB S).2.2 = 0) :
  Calls Tryz.prog 56 #[.string ⟨S.toArray⟩, .int .i64 20] w fun e w' => e = .panicked [{ v := rerr (23), recovered := false }] ∧ Below w.heap.size w w' := by
 have b1 : Below w.heap.size w (w.alloc (.cells Ze 45)) := (Below.refl _ _).alloc (Nat.le_refl _) _
 have kh := head_any S (by omega) (w.alloc (.cells Ze 45))
 unfold HeadP at kh
 obtain ⟨n, m, c, hh⟩ : ∃ n m c, headB S = (n, m, c) := ⟨_, _, _, rfl⟩
 rw [hh] at hc
 simp only at hc
 subst hc
 rw [hh] at kh
 simp only at kh
 have HH := hid hh
 clear hh
 unfold rerr
 go_enter Tryz.func56, Tryz.ntmps56
 go_wp2_with fail
 refine Calls.mono kh ?_
 rintro e w2 ⟨rfl, q, rfl⟩
 have b2 := bel_drwN b1 q
 clear kh b1
 generalize (w.alloc (.cells Ze 45)).drewN q = w2 at b2 ⊢
 go_wp2_with fail
 exact ⟨rfl, rfl, b2⟩
set_option maxRecDepth 100000 in
set_option maxHeartbeats 2000000 in
theorem read_hshort (S : List UInt8) (hl : S.length ≤ 1000000) (w : World) (d : Nat) (hd : d < 20) (hc : (headB S).2.2 = 0) (hs : S.length < (headB S).1 + (headB S).2.1) :
  Calls Tryz.prog 56 #[.string ⟨S.toArray⟩, .int .i64 (d : Int)] w fun e w' => e = .panicked [{ v := rerr (20), recovered := false }] ∧ Below w.heap.size w w' := by
 have b1 : Below w.heap.size w (w.alloc (.cells Ze 45)) := (Below.refl _ _).alloc (Nat.le_refl _) _
 have kh := head_any S (by omega) (w.alloc (.cells Ze 45))
 unfold HeadP at kh
 obtain ⟨n, m, c, hh⟩ : ∃ n m c, headB S = (n, m, c) := ⟨_, _, _, rfl⟩
 have hb := headB_le S
 rw [hh] at hc hs hb
 simp only at hc hs hb
 subst hc
 have f1 : decide ((d : Int) ≥ 20) = false := decide_eq_false (by omega)
 have f2 : decide ((20 : Int) ≤ (d : Int)) = false := decide_eq_false (by omega)
 have hwn : IntKind.i64.wrap ((n : Int) + (m : Int)) = (n : Int) + (m : Int) := by rw [IntKind.wrap_i64]; omega
 have f3 : decide ((S.length : Int) < (n : Int) + (m : Int)) = true := decide_eq_true (by omega)
 rw [hh] at kh
 simp only at kh
 have HH := hid hh
 clear hh
 unfold rerr
 go_enter Tryz.func56, Tryz.ntmps56
 go_wp2_with fail
 refine Calls.mono kh ?_
 rintro e w2 ⟨rfl, q, rfl⟩
 have b2 := bel_drwN b1 q
 clear kh b1
 generalize (w.alloc (.cells Ze 45)).drewN q = w2 at b2 ⊢
 go_wp2_with fail
 exact ⟨rfl, rfl, b2⟩
theorem head_cut (S : List UInt8) (n m : Nat) (hh : headB S = (n, m, 0)) (hl : n + m ≤ S.length) :
  ∃ b0 r0 c rest, S = (b0 :: r0) ++ (c ++ rest) ∧ r0.length + 1 = n ∧ c.length = m ∧ c = (S.drop n).take m ∧ rest = S.drop (n + m) ∧ S.headD 0 = b0 := by
 have h2 := headB_ge S (by rw [hh])
 rw [hh] at h2
 simp only at h2
 cases S with
 | nil => simp [headB] at hh
 | cons b0 t =>
  obtain ⟨n, rfl⟩ : ∃ k, n = k + 1 := ⟨n - 1, by omega⟩
  simp only [List.length_cons] at hl
  refine ⟨b0, t.take n, (t.drop n).take m, t.drop (n + m), ?_, by simp; omega, by simp; omega, by simp, ?_, rfl⟩
  ·rw [List.cons_append]
   congr 1
   rw [← List.drop_drop, List.take_append_drop, List.take_append_drop]
  ·rw [show n + 1 + m = (n + m) + 1 by omega, List.drop_succ_cons]
theorem read_any_g : ∀ (k : Nat), k ≤ 20 → ∀ (b : List UInt8) (w : World), b.length ≤ 1000000 → Calls Tryz.prog 56 #[.string ⟨b.toArray⟩, .int .i64 ((20 - k : Nat) : Int)] w (RdP w k b)
 | 0, _, b, w, hl => by
  unfold RdP
  by_cases h0 : (headB b).2.2 = 0
  ·have e : readR 0 b = .error 23 := by unfold readR; rw [if_pos h0]
   rw [e]
   exact read_hdeep b hl w h0
  ·have e : readR 0 b = .error (headB b).2.2 := by unfold readR; rw [if_neg h0]
   rw [e]
   exact read_herr b hl w 20 _ rfl h0
 | k + 1, hk, b, w, hl => by
  unfold RdP
  have hd : 20 - (k + 1) = 19 - k := by omega
  rw [hd]
  by_cases h0 : (headB b).2.2 = 0
  ·by_cases h1 : b.length < (headB b).1 + (headB b).2.1
   ·have e : readR (k + 1) b = .error 20 := by unfold readR; rw [if_pos h0, if_pos h1]
    rw [e]
    exact read_hshort b hl w (19 - k) (by omega) h0 h1
   ·obtain ⟨n, m, c, hh⟩ : ∃ n m c, headB b = (n, m, c) := ⟨_, _, _, rfl⟩
    have hb := headB_le b
    have hb6 := headB_le6 b
    have e : readR (k + 1) b = (if (b.headD 0).toNat / 32 % 2 = 0 then .ok (.mk (((b.headD 0).toNat / 64 : Nat) : Int) (((b.headD 0).toNat % 32 : Nat) : Int) false ((b.drop n).take m) [], b.drop (n + m))
      else match kidsR (readR k) ((b.drop n).take m).length ((b.drop n).take m) with
       | .error e => .error e
       | .ok ks => .ok (.mk (((b.headD 0).toNat / 64 : Nat) : Int) (((b.headD 0).toNat % 32 : Nat) : Int) true [] ks, b.drop (n + m))) := by
     rw [hh] at h0 h1
     simp only at h0 h1
     unfold readR
     rw [hh]
     simp only [h0, h1, if_true, if_false]
     try rfl
    rw [hh] at h0 h1 hb hb6
    simp only at h0 h1 hb hb6
    subst h0
    obtain ⟨b0, r0, cc, rest, hS, hn, hm, hc, hr, h8⟩ := head_cut b n m hh (by omega)
    have hrl : rest.length ≤ 900000000 := by rw [hr]; simp; omega
    rw [e, ← hc, ← hr, h8]
    by_cases hp : b0.toNat / 32 % 2 = 0
    ·rw [if_pos hp]
     refine (read_prim_g n m b0 r0 cc rest b hS hn hm hh (by omega) (by omega) hp hrl (19 - k) (by omega) w).mono ?_
     rintro e w' ⟨rfl, hb'⟩
     exact ⟨⟨_, rfl, KidsAt.nil _ _⟩, hb'⟩
    ·rw [if_neg hp]
     exact read_cons_g k (fun b w hl => by
      have h := read_any_g k (by omega) b w hl
      exact h) (by omega) n m b0 r0 cc rest b hS hn hm hh (by omega) (by omega) (by omega) hrl w _ rfl
  ·have e : readR (k + 1) b = .error (headB b).2.2 := by unfold readR; rw [if_neg h0]
   rw [e]
   exact read_herr b hl w (19 - k) _ rfl h0
set_option maxRecDepth 100000 in
set_option maxHeartbeats 4000000 in
theorem Read_ok (b : List UInt8) (el : El) (h : readR 20 b = .ok (el, [])) (hl : b.length ≤ 1000000) (w : World) :
  Calls Tryz.prog 20 #[.string ⟨b.toArray⟩] w fun e w' => (∃ u, e = .returned (.tuple #[.agg (elA el u), .int .i64 0]) ∧ KidsAt (fun g => w.heap.size ≤ g) w' u el.kids) ∧ Below w.heap.size w w' := by
 have hmf : ∀ (fn : Fn) (first cap : Array Value) (w : World), (Instr.makeFunc fn first cap).run Tryz.prog w = .ok (.func fn first cap) w := fun _ _ _ _ => rfl
 obtain ⟨PR, hPR⟩ : ∃ PR : Ending → World → Prop, PR = fun e w' => (∃ u, e = .returned (.tuple #[.agg (elA el u), .int .i64 0]) ∧ KidsAt (fun g => w.heap.size ≤ g) w' u el.kids) ∧ Below w.heap.size w w' := ⟨_, rfl⟩
 rw [← hPR]
 have HP := hid hPR
 clear hPR
 have bA : Below w.heap.size w ((w.alloc (.cells Ze 45)).alloc (.cells #[.int .i64 0] 32)) := ((Below.refl _ _).alloc (Nat.le_refl _) _).alloc (by simp) _
 have rA : ((w.alloc (.cells Ze 45)).alloc (.cells #[.int .i64 0] 32)).heap[w.heap.size]? = some (.cells Ze 45 (0, 0)) := (alloc_old _ _ _ (by simp)).trans (alloc_at _ _ _ rfl)
 have nA : ((w.alloc (.cells Ze 45)).alloc (.cells #[.int .i64 0] 32)).heap[w.heap.size + 1]? = some (.cells #[.int .i64 0] 32 (0, 0)) := alloc_at _ _ _ (by simp)
 have kr : ∀ w, Calls Tryz.prog 56 #[.string ⟨b.toArray⟩, .int .i64 0] w fun e w' => (∃ u, e = .returned (.tuple #[.agg (elA el u), .string ⟨#[]⟩]) ∧ KidsAt (fun g => w.heap.size ≤ g) w' u el.kids) ∧ Below w.heap.size w w' := fun w => by
  have h9 := read_any_g 20 (Nat.le_refl _) b w hl
  unfold RdP RdQ at h9
  rw [h] at h9
  exact h9
 clear h hl
 go_enter_defers Tryz.func20, Tryz.ntmps20
 go_wp2_with fail
 generalize (w.alloc (.cells Ze 45)).alloc (.cells #[.int .i64 0] 32) = wA at bA rA nA ⊢
 refine Calls.mono (show Calls _ _ _ _ _ from kr wA) ?_
 rintro e w1 ⟨⟨u, rfl, hu⟩, hb1⟩
 obtain ⟨a2, c2, hf2⟩ := hu.shape
 subst hf2
 have r1 := (hb1.block _ (gl rA)).trans rA
 have n1 := (hb1.block _ (gl nA)).trans nA
 have b1 := bA.trans (hb1.mono bA.size)
 clear kr hb1 bA rA
 have m1 : Below w1.heap.size w1 (w1.alloc (.cells #[.int .i64 el.cls, .int .i64 el.tag, .bool el.cons, .string ⟨el.bytes.toArray⟩, .slice a2 el.kids.length c2] 45)) := (Below.refl _ _).alloc (Nat.le_refl _) _
 have hltn := (gl n1)
 have r2 := (m1.block _ (gl r1)).trans r1
 have n2 := (m1.block _ hltn).trans n1
 have b2 := b1.trans (m1.mono b1.size)
 have hA2 : w.heap.size + 2 ≤ wA.heap.size := (gl nA)
 have r3 := setRow_heap (w1.alloc (.cells #[.int .i64 el.cls, .int .i64 el.tag, .bool el.cons, .string ⟨el.bytes.toArray⟩, .slice a2 el.kids.length c2] 45)) w.heap.size _ #[.int .i64 el.cls, .int .i64 el.tag, .bool el.cons, .string ⟨el.bytes.toArray⟩, .slice a2 el.kids.length c2] _ _ r2
 have n3 := (setRow_other (w1.alloc (.cells #[.int .i64 el.cls, .int .i64 el.tag, .bool el.cons, .string ⟨el.bytes.toArray⟩, .slice a2 el.kids.length c2] 45)) w.heap.size (w.heap.size + 1) #[.int .i64 el.cls, .int .i64 el.tag, .bool el.cons, .string ⟨el.bytes.toArray⟩, .slice a2 el.kids.length c2] (by omega)).trans n2
 have b3 := below_row b2 (g := w.heap.size) (Nat.le_refl _) #[.int .i64 el.cls, .int .i64 el.tag, .bool el.cons, .string ⟨el.bytes.toArray⟩, .slice a2 el.kids.length c2]
 have u3 : KidsAt (fun g => w.heap.size + 2 ≤ g) ((w1.alloc (.cells #[.int .i64 el.cls, .int .i64 el.tag, .bool el.cons, .string ⟨el.bytes.toArray⟩, .slice a2 el.kids.length c2] 45)).setRow w.heap.size #[.int .i64 el.cls, .int .i64 el.tag, .bool el.cons, .string ⟨el.bytes.toArray⟩, .slice a2 el.kids.length c2]) (.slice a2 el.kids.length c2) el.kids := (hu.below m1).kept fun g hg _ => ⟨setRow_other _ _ _ _ (by omega), by omega⟩
 have HU := hid u3
 have HR := hid r3
 have HN := hid n3
 have HB := hid b3
 clear hu r1 n1 b1 m1 n2 b2 r3 n3 b3 u3 nA
 unfold elA
 go_wp2_with (refine wpList_storeRow rfl 45 (.tmp 2) (.tmp 15) rfl w.heap.size 45 _ #[.int .i64 el.cls, .int .i64 el.tag, .bool el.cons, .string ⟨el.bytes.toArray⟩, .slice a2 el.kids.length c2] (by rfl) (by rfl) r2 (by rfl) (by rfl) (by simp [Value.oneCell']) ?_; clear r2; generalize (w1.alloc (.cells #[.int .i64 el.cls, .int .i64 el.tag, .bool el.cons, .string ⟨el.bytes.toArray⟩, .slice a2 el.kids.length c2] 45)).setRow w.heap.size #[.int .i64 el.cls, .int .i64 el.tag, .bool el.cons, .string ⟨el.bytes.toArray⟩, .slice a2 el.kids.length c2] = w3 at HU HR HN HB ⊢; have q3 : w3.cell? ⟨w.heap.size + 1, 0, none⟩ = some (.int .i64 0) := (cell_of_heap HN.out 0).trans rfl; have z3 := Lib.frozen_of_heap HN.out 0)
 have f1 : (w3.setCell ⟨w.heap.size + 1, 0, none⟩ (.int .i64 0)).heap[w.heap.size]? = some (.cells #[.int .i64 el.cls, .int .i64 el.tag, .bool el.cons, .string ⟨el.bytes.toArray⟩, .slice a2 el.kids.length c2] 45 (0, 0)) := (Below.heap_setCell w3 ⟨w.heap.size + 1, 0, none⟩ (.int .i64 0) w.heap.size (by show w.heap.size ≠ w.heap.size + 1; omega)).trans HR.out
 have f2 : (w3.setCell ⟨w.heap.size + 1, 0, none⟩ (.int .i64 0)).cell? ⟨w.heap.size + 1, 0, none⟩ = some (.int .i64 0) := (cell_of_heap (show (w3.setCell ⟨w.heap.size + 1, 0, none⟩ (.int .i64 0)).heap[w.heap.size + 1]? = some (.cells #[.int .i64 0] 32 (0, 0)) from setCell_at (i := 0) (u := .int .i64 0) HN.out) 0).trans rfl
 have bF := HB.out.setCell (p := ⟨w.heap.size + 1, 0, none⟩) (by show w.heap.size ≤ w.heap.size + 1; omega) (.int .i64 0)
 have uF : KidsAt (fun g => w.heap.size ≤ g) (w3.setCell ⟨w.heap.size + 1, 0, none⟩ (.int .i64 0)) (.slice a2 el.kids.length c2) el.kids := HU.out.kept fun g hg _ => ⟨Below.heap_setCell w3 ⟨w.heap.size + 1, 0, none⟩ _ g (by show g ≠ w.heap.size + 1; omega), by omega⟩
 clear HU HR HN HB
 generalize w3.setCell ⟨w.heap.size + 1, 0, none⟩ (.int .i64 0) = wF at f1 f2 bF uF ⊢
 refine leaves_cons (f := 55) (args := #[.pointer (some ⟨w.heap.size, 0, none⟩), .pointer (some ⟨w.heap.size + 1, 0, none⟩)]) (by simp) (by simp [go_sem]) ?_
 refine (read_idle w.heap.size (w.heap.size + 1) wF).mono ?_
 rintro e u' w3 ⟨rfl, rfl, hw3⟩
 rw [hw3]
 have c0 : wF.cell? ⟨w.heap.size, 0, none⟩ = some (.int .i64 el.cls) := (cell_of_heap f1 0).trans rfl
 have c1 : wF.cell? ⟨w.heap.size, 1, none⟩ = some (.int .i64 el.tag) := (cell_of_heap f1 1).trans rfl
 have c2' : wF.cell? ⟨w.heap.size, 2, none⟩ = some (.bool el.cons) := (cell_of_heap f1 2).trans rfl
 have c3 : wF.cell? ⟨w.heap.size, 3, none⟩ = some (.string ⟨el.bytes.toArray⟩) := (cell_of_heap f1 3).trans rfl
 have c4 : wF.cell? ⟨w.heap.size, 4, none⟩ = some (.slice a2 el.kids.length c2) := (cell_of_heap f1 4).trans rfl
 simp [Leaves, settle, results, Tryz.results20, go_sem, c0, c1, c2', c3, c4, f2]
 rw [HP.out]
 exact ⟨⟨_, rfl, uF⟩, bF⟩
set_option maxRecDepth 100000 in
theorem Frame_any (b : List UInt8) (hl : b.length ≤ 1000000) (w : World) :
  Calls Tryz.prog 19 #[.string ⟨b.toArray⟩] w fun e w' => e = .returned (.tuple #[.int .i64 ((frameB b).1 : Int), .int .i64 (frameB b).2]) ∧ Below w.heap.size w w' := by
 have kh := head_any b (by omega) w
 have hb := headB_le b
 unfold HeadP at kh
 unfold frameB
 obtain ⟨n, m, c, hh⟩ : ∃ n m c, headB b = (n, m, c) := ⟨_, _, _, rfl⟩
 rw [hh] at kh hb ⊢
 simp only at kh hb ⊢
 have hw : IntKind.i64.wrap ((n : Int) + (m : Int)) = ((n + m : Nat) : Int) := by rw [IntKind.wrap_i64]; omega
 clear hh
 go_enter Tryz.func19, Tryz.ntmps19
 go_wp2_with fail
 refine Calls.mono kh ?_
 rintro e w2 ⟨rfl, q, rfl⟩
 have b2 := bel_drwN (Below.refl w.heap.size w) q
 clear kh
 generalize w.drewN q = w2 at b2 ⊢
 go_wp2_with fail
 go_ret2
 exact ⟨by first | rfl | exact congrArg _ (by simp), b2⟩
end Go.Proofs.YthjaiigijbjloaaGreatDoor
