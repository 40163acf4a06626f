/- FsA, DnA0, DnTL. -/
import Derived.Deep.QuietTactic
import Derived.BigQuiet
import Derived.Shelf.Strings.SlTrimAscii
import Derived.Lib.SplitLaws
import Derived.Test.YthjaiigijbjloaaGreatDoorQ22
namespace Go.Proofs.YthjaiigijbjloaaGreatDoor
open Go.RowKit Go.Lib
theorem mk_inj' {a b : List UInt8} (h : (⟨a.toArray⟩ : ByteArray) = ⟨b.toArray⟩) : a = b := by
 have := congrArg (fun x : ByteArray => x.data.toList) h
 simpa using this
theorem Equal_any (u v : Value) (a b : List (List UInt8)) (w : World) (hu : StrsM w u a) (hv : StrsM w v b) (ha : a.length ≤ 1000000000) (hb : b.length ≤ 1000000000) :
  Calls Tryz.prog 179 #[u, v] w fun e w' => e = .returned (.bool (decide (a = b))) ∧ Below w.heap.size w w' := by
 obtain ⟨p, c, rfl, hc, h1⟩ := hu
 obtain ⟨q, d, rfl, hd, h2⟩ := hv
 by_cases hlen : a.length = b.length
 ·cases a with
  | nil =>
   have hb0 : b = [] := List.length_eq_zero_iff.1 (by simpa using hlen.symm)
   subst hb0
   refine (Tryz.slices_Equal_string_empty p q c 0 d w (by omega)).mono ?_
   rintro e w' ⟨rfl, rfl⟩
   exact ⟨rfl, Below.refl _ _⟩
  | cons x r =>
   obtain ⟨g, o, rfl, k1⟩ := h1 (by simp)
   obtain ⟨g2, o2, rfl, k2⟩ := h2 (by intro h0; rw [h0] at hlen; simp at hlen)
   refine (Tryz.slices_Equal_string g o (x :: r).length c g2 o2 b.length d ((x :: r).map fun s => ⟨s.toArray⟩) (b.map fun s => ⟨s.toArray⟩) w (by simp) (by simp) (by omega) (by omega) (fun j hj => ?_) (fun j hj => ?_)).mono ?_
   ·have hj2 : j < (x :: r).length := by simpa using hj
    rw [k1 j _ (List.getElem?_eq_getElem hj2)]
    simp only [List.getD_eq_getElem?_getD, List.getElem?_map, List.getElem?_eq_getElem hj2]
    rfl
   ·have hj2 : j < b.length := by simpa using hj
    rw [k2 j _ (List.getElem?_eq_getElem hj2)]
    simp only [List.getD_eq_getElem?_getD, List.getElem?_map, List.getElem?_eq_getElem hj2]
    rfl
   ·rintro e w' ⟨rfl, n, rfl⟩
    refine ⟨?_, bel_drwN (Below.refl _ _) n⟩
    rw [List.take_of_length_le (by simp), List.take_of_length_le (by simp)]
    congr 2
    have hi := List.map_inj_right (f := fun s : List UInt8 => (⟨s.toArray⟩ : ByteArray)) (l := x :: r) (l' := b) (fun _ _ h => mk_inj' h)
    exact decide_eq_decide.2 hi
 ·refine (Tryz.slices_Equal_string_lens p q a.length c b.length d w hlen).mono ?_
  rintro e w' ⟨rfl, rfl⟩
  exact ⟨by rw [decide_eq_false (fun h => hlen (by rw [h]))], Below.refl _ _⟩
theorem Contains_nil (u : Value) (a : List (List UInt8)) (w : World) (hu : StrsM w u a) (ha : a.length ≤ 1000000000) :
  Calls Tryz.prog 174 #[u, .string ⟨#[]⟩] w fun e w' => e = .returned (.bool (a.contains [])) ∧ Below w.heap.size w w' := by
 obtain ⟨p, c, rfl, hc, h1⟩ := hu
 cases a with
 | nil =>
  refine (Tryz.slices_Contains_string_empty p c ⟨#[]⟩ w).mono ?_
  rintro e w' ⟨rfl, rfl⟩
  exact ⟨rfl, Below.refl _ _⟩
 | cons x r =>
  obtain ⟨g, o, rfl, k1⟩ := h1 (by simp)
  refine (Tryz.slices_Contains_string g o (x :: r).length c ((x :: r).map fun s => ⟨s.toArray⟩) ⟨#[]⟩ w (by simp) (by omega) (fun j hj => ?_)).mono ?_
  ·have hj2 : j < (x :: r).length := by simpa using hj
   rw [k1 j _ (List.getElem?_eq_getElem hj2)]
   simp only [List.getD_eq_getElem?_getD, List.getElem?_map, List.getElem?_eq_getElem hj2]
   rfl
  ·rintro e w' ⟨rfl, rfl⟩
   refine ⟨?_, Below.refl _ _⟩
   rw [List.take_of_length_le (by simp)]
   congr 2
   rw [Bool.eq_iff_iff, containsS_iff, List.contains_iff_mem, List.mem_map]
   exact ⟨fun ⟨s, hs, h⟩ => by have : s = [] := mk_inj' h; rw [← this]; exact hs, fun h => ⟨[], h, rfl⟩⟩
def sameB (p q : Fl) : Bool := decide (p.op = q.op) && decide (p.n = q.n) && decide (p.typ = q.typ) && decide (p.value = q.value) && decide (p.init = q.init) && decide (p.final = q.final) && decide (p.any = q.any)
set_option maxRecDepth 100000 in
set_option maxHeartbeats 2000000 in
theorem same_any (p q : Fl) (u v : Value) (w : World) (hu : StrsM w u p.any) (hv : StrsM w v q.any) (ha : p.any.length ≤ 1000000000) (hb : q.any.length ≤ 1000000000) :
  Calls Tryz.prog 173 #[.agg (p.row u), .agg (q.row v)] w fun e w' => e = .returned (.bool (sameB p q)) ∧ Below w.heap.size w w' := by
 obtain ⟨OK, hOK⟩ : ∃ b, sameB p q = b := ⟨_, rfl⟩
 rw [hOK]
 have ke := fun w' hb' => Equal_any u v p.any q.any w' (hu.below hb') (hv.below hb') ha hb
 obtain ⟨P, hP⟩ : ∃ P, p.row u = P := ⟨_, rfl⟩
 obtain ⟨Q, hQ⟩ : ∃ Q, q.row v = Q := ⟨_, rfl⟩
 rw [hP, hQ]
 have HP := hid hP
 have HQ := hid hQ
 have HOK := hid hOK
 clear hP hQ hOK hu hv ha hb
 have b1 : Below w.heap.size w ((w.alloc (.cells P 60)).alloc (.cells Q 60)) := ((Below.refl _ _).alloc (Nat.le_refl _) _).alloc (by simp) _
 have m1 : ((w.alloc (.cells P 60)).alloc (.cells Q 60)).heap[w.heap.size]? = some (.cells P 60 (0, 0)) := (alloc_old _ _ _ (by simp)).trans (alloc_at _ _ _ rfl)
 have t1 : ((w.alloc (.cells P 60)).alloc (.cells Q 60)).heap[w.heap.size + 1]? = some (.cells Q 60 (0, 0)) := alloc_at _ _ _ (by simp)
 have KE := hid (ke _ b1)
 clear ke
 go_enter Tryz.func173, Tryz.ntmps173
 go_upto_region 1 with fail
 generalize (w.alloc (.cells P 60)).alloc (.cells Q 60) = w1 at b1 m1 t1 KE ⊢
 have p0 : w1.cell? ⟨w.heap.size, 0, none⟩ = some (.int .i64 p.op) := (cell_of_heap m1 0).trans (by rw [← HP.out]; rfl)
 have q0 : w1.cell? ⟨w.heap.size + 1, 0, none⟩ = some (.int .i64 q.op) := (cell_of_heap t1 0).trans (by rw [← HQ.out]; rfl)
 have p1 : w1.cell? ⟨w.heap.size, 1, none⟩ = some (.int .i64 p.n) := (cell_of_heap m1 1).trans (by rw [← HP.out]; rfl)
 have q1 : w1.cell? ⟨w.heap.size + 1, 1, none⟩ = some (.int .i64 q.n) := (cell_of_heap t1 1).trans (by rw [← HQ.out]; rfl)
 have p2 : w1.cell? ⟨w.heap.size, 2, none⟩ = some (.string ⟨p.typ.toArray⟩) := (cell_of_heap m1 2).trans (by rw [← HP.out]; rfl)
 have q2 : w1.cell? ⟨w.heap.size + 1, 2, none⟩ = some (.string ⟨q.typ.toArray⟩) := (cell_of_heap t1 2).trans (by rw [← HQ.out]; rfl)
 have p3 : w1.cell? ⟨w.heap.size, 3, none⟩ = some (.string ⟨p.value.toArray⟩) := (cell_of_heap m1 3).trans (by rw [← HP.out]; rfl)
 have q3 : w1.cell? ⟨w.heap.size + 1, 3, none⟩ = some (.string ⟨q.value.toArray⟩) := (cell_of_heap t1 3).trans (by rw [← HQ.out]; rfl)
 have p4 : w1.cell? ⟨w.heap.size, 4, none⟩ = some (.string ⟨p.init.toArray⟩) := (cell_of_heap m1 4).trans (by rw [← HP.out]; rfl)
 have q4 : w1.cell? ⟨w.heap.size + 1, 4, none⟩ = some (.string ⟨q.init.toArray⟩) := (cell_of_heap t1 4).trans (by rw [← HQ.out]; rfl)
 have p5 : w1.cell? ⟨w.heap.size, 5, none⟩ = some (.string ⟨p.final.toArray⟩) := (cell_of_heap m1 5).trans (by rw [← HP.out]; rfl)
 have q5 : w1.cell? ⟨w.heap.size + 1, 5, none⟩ = some (.string ⟨q.final.toArray⟩) := (cell_of_heap t1 5).trans (by rw [← HQ.out]; rfl)
 have p6 : w1.cell? ⟨w.heap.size, 6, none⟩ = some (u) := (cell_of_heap m1 6).trans (by rw [← HP.out]; rfl)
 have q6 : w1.cell? ⟨w.heap.size + 1, 6, none⟩ = some (v) := (cell_of_heap t1 6).trans (by rw [← HQ.out]; rfl)
 clear m1 t1 HP HQ
 obtain ⟨o1, n1, ty1, v1, i1, f1, a1⟩ := p
 obtain ⟨o2, n2, ty2, v2, i2, f2, a2⟩ := q
 simp only at p0 p1 p2 p3 p4 p5 q0 q1 q2 q3 q4 q5 KE HOK
 by_cases h0 : o1 = o2
 rotate_left
 ·have g0 : (o1 == o2) = false := beq_false_of_ne h0
  have hOK : OK = false := by rw [← HOK.out]; simp [sameB, h0]
  have HO := hid hOK
  clear hOK KE HOK h0
  go_wp2_with fail
  go_ret
  exact ⟨by rw [HO.out]; rfl, b1⟩
 subst h0
 by_cases h1 : n1 = n2
 rotate_left
 ·have g1 : (n1 == n2) = false := beq_false_of_ne h1
  have hOK : OK = false := by rw [← HOK.out]; simp [sameB, h1]
  have HO := hid hOK
  clear hOK KE HOK h1
  go_wp2_with fail
  go_ret
  exact ⟨by rw [HO.out]; rfl, b1⟩
 subst h1
 by_cases h2 : ty1 = ty2
 rotate_left
 ·have g2 : (ty1 == ty2) = false := beq_false_of_ne h2
  have g22 : decide (ty1 = ty2) = false := decide_eq_false h2
  have hOK : OK = false := by rw [← HOK.out]; simp [sameB, h2]
  have HO := hid hOK
  clear hOK KE HOK h2
  go_wp2_with fail
  go_ret
  exact ⟨by rw [HO.out]; rfl, b1⟩
 subst h2
 by_cases h3 : v1 = v2
 rotate_left
 ·have g3 : (v1 == v2) = false := beq_false_of_ne h3
  have g32 : decide (v1 = v2) = false := decide_eq_false h3
  have hOK : OK = false := by rw [← HOK.out]; simp [sameB, h3]
  have HO := hid hOK
  clear hOK KE HOK h3
  go_wp2_with fail
  go_ret
  exact ⟨by rw [HO.out]; rfl, b1⟩
 subst h3
 by_cases h4 : i1 = i2
 rotate_left
 ·have g4 : (i1 == i2) = false := beq_false_of_ne h4
  have g42 : decide (i1 = i2) = false := decide_eq_false h4
  have hOK : OK = false := by rw [← HOK.out]; simp [sameB, h4]
  have HO := hid hOK
  clear hOK KE HOK h4
  go_wp2_with fail
  go_ret
  exact ⟨by rw [HO.out]; rfl, b1⟩
 subst h4
 by_cases h5 : f1 = f2
 rotate_left
 ·have g5 : (f1 == f2) = false := beq_false_of_ne h5
  have g52 : decide (f1 = f2) = false := decide_eq_false h5
  have hOK : OK = false := by rw [← HOK.out]; simp [sameB, h5]
  have HO := hid hOK
  clear hOK KE HOK h5
  go_wp2_with fail
  go_ret
  exact ⟨by rw [HO.out]; rfl, b1⟩
 subst h5
 have hOK : OK = decide (a1 = a2) := by rw [← HOK.out]; simp [sameB]
 have ke := KE.out
 clear KE HOK
 rw [← hOK] at ke
 clear hOK
 go_wp2_with fail
 refine Calls.mono ke ?_
 rintro e w2 ⟨rfl, hb2⟩
 have b2 := b1.trans (hb2.mono b1.size)
 clear ke hb2 b1 p0 p1 p2 p3 p4 p5 p6 q0 q1 q2 q3 q4 q5 q6
 go_wp2_with fail
 go_ret
 exact ⟨by cases OK <;> rfl, b2⟩
theorem dec_le (a n : Nat) : decide ((a : Int) ≤ (n : Int)) = decide (a ≤ n) := decide_eq_decide.2 (by omega)
theorem beq_nat (n a : Nat) : (((n : Int) == (a : Int))) = (n == a) := by rw [Bool.eq_iff_iff]; simp; omega
theorem u8_beq (c : UInt8) (a : Nat) (h : a < 256) : (c == UInt8.ofNat a) = (c.toNat == a) := by
 rw [Bool.eq_iff_iff]
 simp only [beq_iff_eq]
 constructor
 ·rintro rfl; rw [UInt8.toNat_ofNat']; omega
 ·intro e; rw [← e]; simp
set_option maxRecDepth 100000 in
set_option maxHeartbeats 2000000 in
theorem isLetter_any (c : UInt8) (w : World) :
  Calls Tryz.prog 181 #[.int .u8 (c.toNat : Int)] w fun e w' => e = .returned (.bool (letB c)) ∧ w = w' := by
 unfold letB
 obtain ⟨n, hn⟩ : ∃ n, c.toNat = n := ⟨_, rfl⟩
 rw [hn]
 clear hn
 have h0 : decide ((97 : Int) ≤ (n : Int)) = decide (97 ≤ n) := dec_le 97 n
 have h1 : decide ((n : Int) ≤ (122 : Int)) = decide (n ≤ 122) := dec_le n 122
 have h2 : decide ((65 : Int) ≤ (n : Int)) = decide (65 ≤ n) := dec_le 65 n
 have h3 : decide ((n : Int) ≤ (90 : Int)) = decide (n ≤ 90) := dec_le n 90
 generalize decide (97 ≤ n) = p at h0 ⊢
 generalize decide (n ≤ 122) = q at h1 ⊢
 generalize decide (65 ≤ n) = r at h2 ⊢
 generalize decide (n ≤ 90) = t at h3 ⊢
 cases p <;> cases q <;> cases r <;> cases t <;> (go_enter Tryz.func181, Tryz.ntmps181; go_wp2; go_ret; exact ⟨rfl, rfl⟩)
set_option maxRecDepth 100000 in
set_option maxHeartbeats 2000000 in
theorem isDigit_any (c : UInt8) (w : World) :
  Calls Tryz.prog 190 #[.int .u8 (c.toNat : Int)] w fun e w' => e = .returned (.bool (digB c)) ∧ w = w' := by
 unfold digB
 obtain ⟨n, hn⟩ : ∃ n, c.toNat = n := ⟨_, rfl⟩
 rw [hn]
 clear hn
 have h0 : decide ((48 : Int) ≤ (n : Int)) = decide (48 ≤ n) := dec_le 48 n
 have h1 : decide ((n : Int) ≤ (57 : Int)) = decide (n ≤ 57) := dec_le n 57
 generalize decide (48 ≤ n) = p at h0 ⊢
 generalize decide (n ≤ 57) = q at h1 ⊢
 cases p <;> cases q <;> (go_enter Tryz.func190, Tryz.ntmps190; go_wp2; go_ret; exact ⟨rfl, rfl⟩)
set_option maxRecDepth 100000 in
set_option maxHeartbeats 2000000 in
theorem inType_any (c : UInt8) (w : World) :
  Calls Tryz.prog 183 #[.int .u8 (c.toNat : Int)] w fun e w' => e = .returned (.bool (inTyB c)) ∧ w = w' := by
 have k1 := isLetter_any c w
 have k2 := isDigit_any c w
 unfold inTyB
 have h0 : ((c.toNat : Int) == 45) = (c == 45) := (beq_nat c.toNat 45).trans (u8_beq c 45 (by decide)).symm
 have h1 : ((c.toNat : Int) == 46) = (c == 46) := (beq_nat c.toNat 46).trans (u8_beq c 46 (by decide)).symm
 generalize letB c = p at k1 ⊢
 generalize digB c = q at k2 ⊢
 generalize (c == 45) = r at h0 ⊢
 generalize (c == 46) = t at h1 ⊢
 cases p <;> cases q <;> cases r <;> cases t <;> (go_enter Tryz.func183, Tryz.ntmps183; go_wp2_with (first | (go_at_call 181; refine k1.mono ?_; rintro e w' ⟨rfl, rfl⟩) | (go_at_call 190; refine k2.mono ?_; rintro e w' ⟨rfl, rfl⟩)); go_ret; exact ⟨rfl, rfl⟩)
theorem dw_nil : ∀ x : List UInt8, x.dropWhile digB = [] ↔ x.all digB = true
 | [] => by simp
 | c :: t => by
  by_cases h : digB c = true
  ·rw [List.dropWhile_cons_of_pos h, List.all_cons, h, Bool.true_and]
   exact dw_nil t
  ·rw [List.dropWhile_cons_of_neg h]
   simp [h]
theorem mem_tw {p : UInt8 → Bool} {x : UInt8} : ∀ {l : List UInt8}, x ∈ l.takeWhile p → p x = true
 | [], h => by simp at h
 | c :: t, h => by
  by_cases hc : p c = true
  ·rw [List.takeWhile_cons_of_pos hc] at h
   rcases List.mem_cons.1 h with rfl | h
   ·exact hc
   ·exact mem_tw h
  ·rw [List.takeWhile_cons_of_neg hc] at h
   simp at h
theorem trim_digits (l : List UInt8) : (trimS l [48, 49, 50, 51, 52, 53, 54, 55, 56, 57] = []) ↔ l.all digB = true := by
 have hc : ∀ c : UInt8, ([48, 49, 50, 51, 52, 53, 54, 55, 56, 57] : List UInt8).contains c = digB c := by
  have : ∀ i : Fin 256, ([48, 49, 50, 51, 52, 53, 54, 55, 56, 57] : List UInt8).contains (UInt8.ofNat i.val) = digB (UInt8.ofNat i.val) := by decide +kernel
  intro c
  have h := this ⟨c.toNat, UInt8.toNat_lt c⟩
  simpa using h
 unfold trimS trimLeftS trimRightS
 simp only [hc]
 rw [dw_nil, List.all_eq_true, List.all_eq_true]
 constructor
 ·intro h x hx
  by_cases hd : digB x = true
  ·exact hd
  ·have hmem : x ∈ l.reverse.dropWhile digB := by
    have := List.takeWhile_append_dropWhile (p := digB) (l := l.reverse)
    have hx2 : x ∈ l.reverse.takeWhile digB ++ l.reverse.dropWhile digB := by rw [this]; exact List.mem_reverse.2 hx
    rcases List.mem_append.1 hx2 with h1 | h1
    ·exact absurd (mem_tw h1) hd
    ·exact h1
   exact h x (List.mem_reverse.2 hmem)
 ·intro h x hx
  exact h x (List.mem_reverse.1 ((List.dropWhile_sublist _).subset (List.mem_reverse.1 hx)))
theorem Split_l (s : List UInt8) (w : World) (hs : s.length ≤ 1000) (hE : Env w) :
  Calls Tryz.prog 188 #[.string ⟨s.toArray⟩, .string ⟨#[46]⟩] w fun e w' => e = .returned (.slice (some ⟨w.heap.size, 0, none⟩) (split s [46]).length (split s [46]).length) ∧ ((∀ j l, (split s [46])[j]? = some l → w'.cell? ⟨w.heap.size, j, none⟩ = some (.string ⟨l.toArray⟩)) ∧ w.heap.size < w'.heap.size ∧ Below w.heap.size w w') := by
 obtain ⟨m, hm⟩ := hE.maxl
 have hlen := Lib.splitB_all ⟨#[46]⟩ (by decide) 0 _ (⟨s.toArray⟩ : ByteArray) rfl
 have hd := splitB_data ⟨#[46]⟩ 0 (countB ⟨s.toArray⟩ ⟨#[46]⟩) ⟨s.toArray⟩
 have hsp : split s [46] = (splitB ⟨#[46]⟩ 0 (countB ⟨s.toArray⟩ ⟨#[46]⟩) ⟨s.toArray⟩).map (·.data.toList) := by rw [hd]; simp [split, countB]
 have hl2 : (split s [46]).length = countB ⟨s.toArray⟩ ⟨#[46]⟩ + 1 := by rw [hsp, List.length_map, hlen]
 refine (Tryz.strings_Split ⟨s.toArray⟩ ⟨#[46]⟩ m w (by rw [Lib.size_mk]; omega) hm (by decide)).mono ?_
 rintro e w' ⟨rfl, rfl⟩
 refine ⟨by rw [hl2], ?_, by simp, (Below.refl _ _).alloc (Nat.le_refl _) _⟩
 intro j l hj
 have hb : (w.alloc (.cells ((splitB ⟨#[46]⟩ 0 (countB ⟨s.toArray⟩ ⟨#[46]⟩) ⟨s.toArray⟩).map Value.string).toArray 9)).heap[w.heap.size]? = some (.cells ((splitB ⟨#[46]⟩ 0 (countB ⟨s.toArray⟩ ⟨#[46]⟩) ⟨s.toArray⟩).map Value.string).toArray 9 (0, 0)) := by
  show (w.heap.push _)[w.heap.size]? = _
  simp
 rw [cell_of_heap hb]
 rw [hsp, List.getElem?_map] at hj
 cases hq : (splitB ⟨#[46]⟩ 0 (countB ⟨s.toArray⟩ ⟨#[46]⟩) ⟨s.toArray⟩)[j]? with
 | none => rw [hq] at hj; cases hj
 | some x =>
  rw [hq] at hj
  cases hj
  simp only [List.getElem?_toArray, List.getElem?_map, hq, Option.map_some]
theorem Trim_l (s : List UInt8) (w : World) (hs : s.length ≤ 1099511627776) :
  Calls Tryz.prog 189 #[.string ⟨s.toArray⟩, .string ⟨#[48, 49, 50, 51, 52, 53, 54, 55, 56, 57]⟩] w fun e w' => e = .returned (.string ⟨(trimS s [48, 49, 50, 51, 52, 53, 54, 55, 56, 57]).toArray⟩) ∧ Below w.heap.size w w' :=
 Any.strings_Trim_ascii Tryz.lays160 (fun w => by kernel_rfl) (by kernel_rfl) ⟨s.toArray⟩ ⟨#[48, 49, 50, 51, 52, 53, 54, 55, 56, 57]⟩ w (by rw [Lib.size_mk]; omega) (by decide) (by
  intro j b hj
  have : b ∈ ([48, 49, 50, 51, 52, 53, 54, 55, 56, 57] : List UInt8) := List.mem_of_getElem? hj
  clear hj
  revert b
  decide)
def ORel (w : World) (ls : List (List UInt8)) (ANS : Bool) (i : Value) (wr : World) : Prop :=
 ∃ k : Nat, i = .int .i64 (k : Int) ∧ k ≤ ls.length ∧ (∀ j l, ls[j]? = some l → wr.cell? ⟨w.heap.size, j, none⟩ = some (.string ⟨l.toArray⟩)) ∧ w.heap.size < wr.heap.size ∧ Below w.heap.size w wr ∧ ((ls.drop k).all numB && decide (1 < ls.length)) = ANS
theorem splitK_length (sep : List UInt8) (save : Nat) : ∀ (k : Nat) (s : List UInt8), ∀ l ∈ splitK sep save k s, l.length ≤ s.length + save
 | 0, s, l, h => by simp [splitK] at h; subst h; omega
 | k + 1, s, l, h => by
  unfold splitK at h
  split at h
  ·simp at h; subst h; omega
  ·rcases List.mem_cons.1 h with rfl | h
   ·rw [List.length_take]; omega
   ·have := splitK_length sep save k _ l h
    rw [List.length_drop] at this
    omega
set_option maxRecDepth 100000 in
set_option maxHeartbeats 2000000 in
theorem isOid_any (s : List UInt8) (w : World) (hs : s.length ≤ 64) (hE : Env w) :
  Calls Tryz.prog 182 #[.string ⟨s.toArray⟩] w fun e w' => e = .returned (.bool (oidB s)) ∧ Below w.heap.size w w' := by
 have k1 := Split_l s w (by omega) hE
 have hlen : ∀ l ∈ split s [46], l.length ≤ 64 := fun l hl => Nat.le_trans (splitK_length _ 0 _ _ l hl) (by omega)
 have hcnt : (split s [46]).length ≤ 1000000 := by
  have h1 := splitB_data ⟨#[46]⟩ 0 (countB ⟨s.toArray⟩ ⟨#[46]⟩) ⟨s.toArray⟩
  have h2 : split s [46] = (splitB ⟨#[46]⟩ 0 (countB ⟨s.toArray⟩ ⟨#[46]⟩) ⟨s.toArray⟩).map (·.data.toList) := by rw [h1]; simp [split, countB]
  have h3 := splitB_length_le ⟨#[46]⟩ 0 (countB ⟨s.toArray⟩ ⟨#[46]⟩) (⟨s.toArray⟩ : ByteArray)
  have h4 := countB_le ⟨#[46]⟩ (by decide) _ (⟨s.toArray⟩ : ByteArray) (Nat.le_refl _)
  rw [Lib.size_mk] at h4
  rw [h2, List.length_map]
  omega
 unfold oidB
 obtain ⟨ANS, hA⟩ : ∃ ANS, ((split s [46]).all numB && decide (1 < (split s [46]).length)) = ANS := ⟨_, rfl⟩
 rw [hA]
 obtain ⟨ls, hls⟩ : ∃ ls, split s [46] = ls := ⟨_, rfl⟩
 rw [hls] at k1 hlen hA hcnt
 have HA := hid hA
 have HL := hid hlen
 clear hls hA hlen
 go_enter Tryz.func182, Tryz.ntmps182
 go_wp2_with (go_at_call 188; refine k1.mono ?_; rintro e w1 ⟨rfl, hc1, hs1, hb1⟩)
 go_loopw [10] (fun i wr => ORel w ls ANS i wr) (fun i _ => ls.length - (RowKit.intOf i).toNat)
 case atStart => exact ⟨0, rfl, by omega, hc1, hs1, hb1, HA.out⟩
 case round =>
  clear hc1 hs1 hb1 HA
  obtain ⟨k, rfl, hk, hc, hsz, hbe, hans⟩ := hrel
  have HC := hid hc
  by_cases hkl : k < ls.length
  ·obtain ⟨x, hx⟩ : ∃ x, ls[k] = x := ⟨_, rfl⟩
   have hxk : ls[k]? = some x := by rw [List.getElem?_eq_getElem hkl, hx]
   have hcell := hc k x hxk
   have hxl : x.length ≤ 64 := HL.out x (List.mem_of_getElem? hxk)
   rw [List.drop_eq_getElem_cons hkl, hx, List.all_cons] at hans
   have k2 := Trim_l x wr (by omega)
   have htr := trim_digits x
   obtain ⟨T, hT⟩ : ∃ T, trimS x [48, 49, 50, 51, 52, 53, 54, 55, 56, 57] = T := ⟨_, rfl⟩
   rw [hT] at k2 htr
   clear hT hc hx hxk
   have hnx : numB x = (!x.isEmpty && !(decide (1 < x.length) && x.getD 0 0 == 48) && x.all digB) := rfl
   rw [hnx] at hans
   clear hnx
   by_cases h0 : x = []
   ·subst h0
    rw [show (!([] : List UInt8).isEmpty && !(decide (1 < ([] : List UInt8).length) && ([] : List UInt8).getD 0 0 == 48) && ([] : List UInt8).all digB) = false from rfl, Bool.false_and, Bool.false_and] at hans
    subst hans
    clear htr k2
    go_wp2_with fail
    go_ret
    exact ⟨rfl, hbe⟩
   ·have hne : x.isEmpty = false := by cases x <;> simp_all
    have hx1 : 0 < x.length := by cases x <;> simp_all
    rw [hne, Bool.not_false, Bool.true_and] at hans
    have hg0 : x.getD 0 0 = x[0] := by simp [hx1]
    rw [hg0] at hans
    have hq0 : (((((⟨x.toArray⟩ : ByteArray)[0]'(by rw [Lib.size_mk]; omega)).toNat : Int)) == 48) = (x[0] == 48) := by
     show (((x[0]).toNat : Int) == 48) = _
     exact (beq_nat _ 48).trans (u8_beq x[0] 48 (by decide)).symm
    obtain ⟨p, hp⟩ : ∃ p, decide (1 < x.length) = p := ⟨_, rfl⟩
    have hp1 : decide ((1 : Int) < (x.length : Int)) = p := by rw [← hp]; exact decide_eq_decide.2 (by omega)
    rw [hp] at hans
    generalize (x[0] == 48) = q at hq0 hans
    clear hp hg0
    have hT1 : (T == []) = x.all digB := by rw [Bool.eq_iff_iff, beq_iff_eq]; exact htr
    generalize x.all digB = d at hT1 hans
    clear htr
    have HS := hid hans
    clear hans
    have go1 : (p && q) = true → ANS = false := fun h => by rw [← HS.out, h]; rfl
    have go2 : d = false → ANS = false := fun h => by rw [← HS.out, h]; simp
    have go3 : (p && q) = false → d = true → ((ls.drop (k + 1)).all numB && decide (1 < ls.length)) = ANS := fun h h' => by rw [← HS.out, h, h']; simp
    have G1 := hid go1
    have G2 := hid go2
    have G3 := hid go3
    clear go1 go2 go3 HS
    cases p <;> cases q
    ·cases d
     ·have e := G2.out rfl
      subst e
      have hTe : T.isEmpty = false := by cases T <;> simp_all
      clear hT1 G1 G2 G3
      go_wp2_with (go_at_call 189; refine k2.mono ?_; rintro e w2 ⟨rfl, hb2⟩)
      go_ret
      exact ⟨rfl, below_ext hbe hb2⟩
     ·have hTe : T = [] := by simpa using hT1
      subst hTe
      have g := G3.out rfl rfl
      have HG := hid g
      clear g hT1 G1 G2 G3
      go_wp2_with (go_at_call 189; refine k2.mono ?_; rintro e w2 ⟨rfl, hb2⟩)
      go_roundw
      case rel => exact ⟨k + 1, by go_num, by omega, fun j l h => (hb2.cell (by exact hsz)).trans (HC.out j l h), Nat.lt_of_lt_of_le hsz hb2.size, below_ext hbe hb2, HG.out⟩
      case measure => simp [RowKit.intOf]; omega
    ·cases d
     ·have e := G2.out rfl
      subst e
      have hTe : T.isEmpty = false := by cases T <;> simp_all
      clear hT1 G1 G2 G3
      go_wp2_with (go_at_call 189; refine k2.mono ?_; rintro e w2 ⟨rfl, hb2⟩)
      go_ret
      exact ⟨rfl, below_ext hbe hb2⟩
     ·have hTe : T = [] := by simpa using hT1
      subst hTe
      have g := G3.out rfl rfl
      have HG := hid g
      clear g hT1 G1 G2 G3
      go_wp2_with (go_at_call 189; refine k2.mono ?_; rintro e w2 ⟨rfl, hb2⟩)
      go_roundw
      case rel => exact ⟨k + 1, by go_num, by omega, fun j l h => (hb2.cell (by exact hsz)).trans (HC.out j l h), Nat.lt_of_lt_of_le hsz hb2.size, below_ext hbe hb2, HG.out⟩
      case measure => simp [RowKit.intOf]; omega
    ·cases d
     ·have e := G2.out rfl
      subst e
      have hTe : T.isEmpty = false := by cases T <;> simp_all
      clear hT1 G1 G2 G3
      go_wp2_with (go_at_call 189; refine k2.mono ?_; rintro e w2 ⟨rfl, hb2⟩)
      go_ret
      exact ⟨rfl, below_ext hbe hb2⟩
     ·have hTe : T = [] := by simpa using hT1
      subst hTe
      have g := G3.out rfl rfl
      have HG := hid g
      clear g hT1 G1 G2 G3
      go_wp2_with (go_at_call 189; refine k2.mono ?_; rintro e w2 ⟨rfl, hb2⟩)
      go_roundw
      case rel => exact ⟨k + 1, by go_num, by omega, fun j l h => (hb2.cell (by exact hsz)).trans (HC.out j l h), Nat.lt_of_lt_of_le hsz hb2.size, below_ext hbe hb2, HG.out⟩
      case measure => simp [RowKit.intOf]; omega
    ·have e := G1.out rfl
     subst e
     clear G1 G2 G3 k2 hT1
     go_wp2_with fail
     go_ret
     exact ⟨rfl, hbe⟩
  ·obtain rfl : k = ls.length := by omega
   rw [List.drop_of_length_le (Nat.le_refl _), List.all_nil, Bool.true_and] at hans
   have h1 : decide ((1 : Int) < (ls.length : Int)) = ANS := by rw [← hans]; exact decide_eq_decide.2 (by omega)
   clear hans hc
   go_wp2_with fail
   go_ret
   exact ⟨rfl, hbe⟩
set_option maxRecDepth 100000 in
set_option maxHeartbeats 2000000 in
theorem IsType_any (s : List UInt8) (w : World) (hs : s.length ≤ 1099511627776) (hE : Env w) :
  Calls Tryz.prog 175 #[.string ⟨s.toArray⟩] w fun e w' => e = .returned (.bool (isTyB s)) ∧ Below w.heap.size w w' := by
 unfold isTyB
 by_cases h0 : s = []
 ·subst h0
  rw [if_pos (.inl rfl)]
  go_enter Tryz.func175, Tryz.ntmps175
  go_wp2
  go_ret
  exact ⟨rfl, Below.refl _ _⟩
 ·have hne : s.isEmpty = false := by cases s <;> simp_all
  have hl : 0 < s.length := by cases s <;> simp_all
  by_cases h64 : 64 < s.length
  ·rw [if_pos (.inr h64)]
   have q1 : decide ((64 : Int) < (s.length : Int)) = true := decide_eq_true (by omega)
   go_enter Tryz.func175, Tryz.ntmps175
   go_wp2
   go_ret
   exact ⟨rfl, Below.refl _ _⟩
  ·rw [if_neg (by rintro (h | h); exact h0 h; exact h64 h)]
   have q1 : decide ((64 : Int) < (s.length : Int)) = false := decide_eq_false (by omega)
   have hg0 : s.getD 0 0 = s[0] := by simp [hl]
   have k1 := isLetter_any s[0] w
   rw [hg0]
   generalize letB s[0] = p at k1 ⊢
   cases p
   ·rw [if_neg (by simp)]
    have k2 := isOid_any s w (by omega) hE
    go_enter Tryz.func175, Tryz.ntmps175
    go_wp2_with (first | (go_at_call 181; refine Calls.mono k1 ?_; rintro e w' ⟨rfl, rfl⟩) | (go_at_call 182; refine k2.mono ?_; rintro e w2 ⟨rfl, hb2⟩))
    go_ret
    exact ⟨rfl, hb2⟩
   ·rw [if_pos rfl]
    obtain ⟨ANS, hA⟩ : ∃ ANS, s.all (fun c => inTyB c && c != 46) = ANS := ⟨_, rfl⟩
    rw [hA]
    have HA := hid hA
    clear hA
    go_enter Tryz.func175, Tryz.ntmps175
    go_wp2_with (go_at_call 181; refine Calls.mono k1 ?_; rintro e w' ⟨rfl, rfl⟩)
    go_loopw [21] (fun i wr => ∃ k : Nat, i = .int .i64 (k : Int) ∧ k ≤ s.length ∧ wr = w ∧ (s.drop k).all (fun c => inTyB c && c != 46) = ANS) (fun i _ => s.length - (RowKit.intOf i).toNat)
    case atStart => exact ⟨0, rfl, by omega, rfl, HA.out⟩
    case round =>
     obtain ⟨k, rfl, hk, rfl, hans⟩ := hrel
     clear HA
     by_cases hkl : k < s.length
     ·rw [List.drop_eq_getElem_cons hkl, List.all_cons] at hans
      have k3 := inType_any s[k] wr
      have hq : (((((⟨s.toArray⟩ : ByteArray)[k]'(by rw [Lib.size_mk]; omega)).toNat : Int)) == 46) = (s[k] == 46) := by
       show (((s[k]).toNat : Int) == 46) = _
       exact (beq_nat _ 46).trans (u8_beq s[k] 46 (by decide)).symm
      rw [show (s[k] != 46) = !(s[k] == 46) from rfl] at hans
      generalize (s[k] == 46) = q at hq hans
      generalize inTyB s[k] = p at k3 hans
      have HS := hid hans
      clear hans
      cases p
      ·have e : ANS = false := by rw [← HS.out]; rfl
       subst e
       go_wp2_with (go_at_call 183; refine Calls.mono k3 ?_; rintro e w' ⟨rfl, rfl⟩)
       go_ret
       exact ⟨rfl, Below.refl _ _⟩
      ·cases q
       ·go_wp2_with (go_at_call 183; refine Calls.mono k3 ?_; rintro e w' ⟨rfl, rfl⟩)
        go_roundw
        case rel => exact ⟨k + 1, by go_num, by omega, trivial, by rw [← HS.out]; simp⟩
        case measure => simp [RowKit.intOf]; omega
       ·have e : ANS = false := by rw [← HS.out]; rfl
        subst e
        go_wp2_with (go_at_call 183; refine Calls.mono k3 ?_; rintro e w' ⟨rfl, rfl⟩)
        go_ret
        exact ⟨rfl, Below.refl _ _⟩
     ·obtain rfl : k = s.length := by omega
      rw [List.drop_of_length_le (Nat.le_refl _), List.all_nil] at hans
      subst hans
      go_wp2_with fail
      go_ret
      exact ⟨rfl, Below.refl _ _⟩
end Go.Proofs.YthjaiigijbjloaaGreatDoor
