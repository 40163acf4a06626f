/- BerF. -/
import Derived.Test.YthjaiigijbjloaaGreatDoorQ4
namespace Go.Proofs.YthjaiigijbjloaaGreatDoor
open Go.RowKit Go.Lib
set_option maxRecDepth 100000 in
set_option maxHeartbeats 2000000 in
theorem length_short : LenOk 127 := by
 intro n hn w
 have g1 : decide ((n : Int) < 128) = true := decide_eq_true (by omega)
 have hl : lenB n = [UInt8.ofNat n] := by unfold lenB; rw [if_pos (by omega)]
 rw [hl]
 have hw1 : IntKind.u8.wrap (n : Int) = (n : Int) := by rw [IntKind.wrap_u8]; omega
 have hnb : (UInt8.ofNat n).toNat = n := by simp [UInt8.toNat_ofNat']; omega
 have hcv : (convert 39 9 (.slice (some ⟨w.heap.size, 0, none⟩) 1 1)).run Tryz.prog (w.alloc (.cells #[.int .u8 (n : Int)] 5)) = .ok (.string ⟨#[UInt8.ofNat n]⟩) (w.alloc (.cells #[.int .u8 (n : Int)] 5)) :=
  run_str_cells _ _ _ 5 _ 1 [UInt8.ofNat n] Tryz.underlying39 Tryz.underlying5 Tryz.underlying9 (by rw [show bV [UInt8.ofNat n] = [.int .u8 (n : Int)] by simp [bV, hnb]]; exact World.news_of_block (alloc_at _ _ _ rfl))
 have b1 : Below w.heap.size w (w.alloc (.cells #[.int .u8 (n : Int)] 5)) := (Below.refl _ _).alloc (Nat.le_refl _) _
 clear hnb hl
 go_enter Tryz.func109, Tryz.ntmps109
 go_wp2_with fail
 go_ret
 exact ⟨rfl, b1⟩
theorem IsW.below {B b : Nat} {l : List UInt8} {w w' : World} (h : IsW B b l w) (hb : Below w.heap.size w w') : IsW B b l w' := by
 have : ∀ p, WAt B b p l w → WAt B b p l w' := by
  rintro p ⟨hB, v, hbk, hown, hne⟩
  exact ⟨hB, v, by rw [hb.block b (gl hbk)]; exact hbk, own_below hown hb, hne⟩
 exact h.elim (fun x => .inl (this _ x)) (fun x => .inr (this _ x))
mutual
def AllE (p : El → Bool) : El → Prop
 | .mk c t k b ks => p (.mk c t k b ks) = true ∧ AllL p ks
def AllL (p : El → Bool) : List El → Prop
 | [] => True
 | e :: r => AllE p e ∧ AllL p r
end
mutual
theorem all_of (p : El → Bool) : ∀ (d : Nat) (e : El), eachE p d e = true → deepE d e = false → AllE p e
 | d, .mk c t k b ks, h, hd => by
  simp only [eachE, deepE] at h hd
  by_cases h20 : 20 ≤ d
  ·rw [if_pos h20] at hd; cases hd
  ·rw [if_neg h20] at h hd
   simp only [Bool.and_eq_true] at h
   simp only [AllE]
   exact ⟨h.1, all_ofL p (d + 1) ks h.2 hd⟩
theorem all_ofL (p : El → Bool) : ∀ (d : Nat) (l : List El), eachL p d l = true → deepL d l = false → AllL p l
 | _, [], _, _ => by simp only [AllL]
 | d, e :: r, h, hd => by
  simp only [eachL, deepL, Bool.and_eq_true, Bool.or_eq_false_iff] at h hd
  simp only [AllL]
  exact ⟨all_of p d e h.1 hd.1, all_ofL p d r h.2 hd.2⟩
end
theorem AllE_parts {p : El → Bool} {e : El} (h : AllE p e) : p e = true ∧ AllL p e.kids := by
 cases e
 simpa only [AllE, El.kids] using h
theorem AllL_get {p : El → Bool} : ∀ (l : List El) (j : Nat) (e : El), AllL p l → l[j]? = some e → AllE p e
 | [], _, _, _, h => by simp at h
 | x :: r, 0, e, h, hj => by simp at hj; subst hj; simp only [AllL] at h; exact h.1
 | x :: r, j + 1, e, h, hj => by simp only [AllL] at h; exact AllL_get r j e h.2 (by simpa using hj)
theorem sizeL_sum : ∀ (l : List El) (n : Nat), sizeL n l < 65537 → sizeL n l = n + sumE l
 | [], n, _ => by simp only [sizeL, sumE]; omega
 | e :: r, n, h => by
  simp only [sizeL, sumE] at h ⊢
  have h1 := sizeL_ge r (min (n + sizeE e) 65537)
  have h2 : min (n + sizeE e) 65537 = n + sizeE e := by omega
  rw [h2] at h ⊢
  rw [sizeL_sum r _ h]
  omega
theorem sumE_take : ∀ (l : List El) (k : Nat), sumE (l.take k) ≤ sumE l
 | [], _ => by simp [sumE]
 | x :: r, 0 => by simp [sumE]
 | x :: r, k + 1 => by
  have := sumE_take r k
  simp only [List.take_succ_cons, sumE]
  omega
theorem sumE_snoc : ∀ (l : List El) (e : El), sumE (l ++ [e]) = sumE l + sizeE e
 | [], e => by simp [sumE]
 | x :: r, e => by
  have := sumE_snoc r e
  simp only [List.cons_append, sumE, this]
  omega
theorem putL_snoc : ∀ (l : List El) (e : El), putL (l ++ [e]) = putL l ++ putE e
 | [], e => by simp [putL]
 | x :: r, e => by
  have := putL_snoc r e
  simp only [List.cons_append, putL, this, List.append_assoc]
theorem take_snoc {α : Type} {l : List α} {k : Nat} {e : α} (h : l[k]? = some e) : l.take (k + 1) = l.take k ++ [e] := by
 rw [List.take_add_one, h]; rfl
theorem putE_eq (e : El) : putE e = UInt8.ofNat (e.cls.toNat * 64 + e.tag.toNat + (if e.cons then 32 else 0)) :: lenB (e.bytes.length + sumE e.kids) ++ e.bytes ++ putL e.kids := by
 cases e; simp only [putE, El.cls, El.tag, El.cons, El.bytes, El.kids]; rfl
mutual
theorem putE_len : ∀ (e : El), sizeE e ≤ 65536 → (putE e).length = sizeE e
 | .mk c t k b ks, h => by
  simp only [sizeE] at h
  have h1 : sizeL b.length ks < 65537 := by omega
  have h2 := sizeL_sum ks b.length h1
  have h3 := putL_len ks (fun j e hj => by have := sizeL_mem ks b.length j e hj; omega)
  simp only [putE, sizeE, List.length_append, List.length_cons, h3]
  rw [h2] at h ⊢
  rw [show min (b.length + sumE ks) 65537 = b.length + sumE ks by omega] at h ⊢
  omega
theorem putL_len : ∀ (l : List El), (∀ (j : Nat) (e : El), l[j]? = some e → sizeE e ≤ 65536) → (putL l).length = sumE l
 | [], _ => rfl
 | e :: r, h => by
  simp only [putL, sumE, List.length_append]
  rw [putE_len e (h 0 e rfl), putL_len r (fun j x hj => h (j + 1) x (by simpa using hj))]
end
set_option maxRecDepth 100000 in
set_option maxHeartbeats 4000000 in
theorem put_any (N : Nat) (hN : LenOk N) (n : Nat) : ∀ (el : El), depE el ≤ n → SmE el → sizeE el ≤ N → sizeE el ≤ 65536 → AllE hasTagE el → ∀ (B b : Nat) (l : List UInt8) (u : Value) (w : World), IsW B b l w → KidsAt (fun g => g < B) w u el.kids → B ≤ w.heap.size → l.length + sizeE el ≤ 1000000000 →
  Calls Tryz.prog 70 #[.pointer (some ⟨b, 0, none⟩), .agg (elA el u)] w fun e w' => e = .returned (.tuple #[]) ∧ IsW B b (l ++ putE el) w' ∧ Below B w w' := by
 induction n with
 | zero => intro el hd; rw [depE_kids] at hd; omega
 | succ n ih =>
 intro el hd hs hz hz6 ht B b l u w hW h hBw hll
 obtain ⟨a, c, hf⟩ := h.shape
 subst hf
 obtain ⟨sb, sl, sk⟩ := SmE_parts hs
 obtain ⟨tg, tk⟩ := AllE_parts ht
 have b1 : Below w.heap.size w (w.alloc (.cells #[.int .i64 el.cls, .int .i64 el.tag, .bool el.cons, .string ⟨el.bytes.toArray⟩, .slice a el.kids.length c] 45)) := (Below.refl _ _).alloc (Nat.le_refl _) _
 have r1 : (w.alloc (.cells #[.int .i64 el.cls, .int .i64 el.tag, .bool el.cons, .string ⟨el.bytes.toArray⟩, .slice a el.kids.length c] 45)).heap[w.heap.size]? = some (.cells #[.int .i64 el.cls, .int .i64 el.tag, .bool el.cons, .string ⟨el.bytes.toArray⟩, .slice a el.kids.length c] 45 (0, 0)) := alloc_at _ _ _ rfl
 obtain ⟨ec, et, ek, eb, es⟩ := el
 simp only [El.kids, El.bytes, El.cls, El.tag, El.cons] at *
 simp only [hasTagE, Bool.and_eq_true, decide_eq_true_eq] at tg
 obtain ⟨⟨⟨t1, t2⟩, t3⟩, t4⟩ := tg
 obtain ⟨C, rfl⟩ : ∃ C : Nat, ec = (C : Int) := ⟨ec.toNat, by omega⟩
 obtain ⟨Tg, rfl⟩ : ∃ C : Nat, et = (C : Int) := ⟨et.toNat, by omega⟩
 have hC : C < 4 := by omega
 have hTg : Tg < 31 := by omega
 have hbits : bits BinOp.or IntKind.i64 ((C : Int) * 64) (Tg : Int) = ((C * 64 + Tg : Nat) : Int) := by
  have : ∀ (c : Fin 4) (t : Fin 31), bits BinOp.or IntKind.i64 ((c.val : Int) * 64) (t.val : Int) = ((c.val * 64 + t.val : Nat) : Int) := by decide +kernel
  exact this ⟨C, hC⟩ ⟨Tg, hTg⟩
 have hbit2 : bits BinOp.or IntKind.i64 ((C * 64 + Tg : Nat) : Int) 32 = ((C * 64 + Tg + 32 : Nat) : Int) := by
  have : ∀ (c : Fin 4) (t : Fin 31), bits BinOp.or IntKind.i64 ((c.val * 64 + t.val : Nat) : Int) 32 = ((c.val * 64 + t.val + 32 : Nat) : Int) := by decide +kernel
  exact this ⟨C, hC⟩ ⟨Tg, hTg⟩
 obtain ⟨Z, hZ⟩ : ∃ Z, sizeE (.mk (C : Int) (Tg : Int) ek eb es) = Z := ⟨_, rfl⟩
 have hsum : eb.length + sumE es ≤ Z := by
  have h1 := sizeE_kids (.mk (C : Int) (Tg : Int) ek eb es)
  simp only [El.kids, El.bytes] at h1
  rw [hZ] at h1 hz6
  have h2 := sizeL_sum es eb.length (by omega)
  omega
 have hZT : 1 + (lenB (eb.length + sumE es)).length + (eb.length + sumE es) = Z := by
  have h1 := sizeE_eq (.mk (C : Int) (Tg : Int) ek eb es)
  simp only [El.kids, El.bytes] at h1
  rw [hZ] at h1 hz6
  have h2 := sizeL_sum es eb.length (by omega)
  rw [h2] at h1
  rw [show min (eb.length + sumE es) 65537 = eb.length + sumE es by omega] at h1
  omega
 rw [hZ] at hz hz6 hll
 have HP := hid (show putE (.mk (C : Int) (Tg : Int) ek eb es) = UInt8.ofNat (C * 64 + Tg + (if ek then 32 else 0)) :: lenB (eb.length + sumE es) ++ eb ++ putL es from by rw [putE_eq]; rfl)
 obtain ⟨FB, hFB⟩ : ∃ FB, C * 64 + Tg + (if ek then 32 else 0) = FB := ⟨_, rfl⟩
 have hFB2 : FB < 256 := by rw [← hFB]; split <;> omega
 have hsz : ∀ (j : Nat) (e : El), es[j]? = some e → sizeE e ≤ Z := fun j e he => by
  have h1 := sizeL_mem es eb.length j e he
  have h2 := sizeE_kids (.mk (C : Int) (Tg : Int) ek eb es)
  simp only [El.kids, El.bytes] at h2
  rw [hZ] at h2
  omega
 have HSZ := hid hsz
 have IH := hid ih
 have HS := hid sk
 have HT := hid tk
 have HDE := hid (show depL es ≤ n from by simp only [depE] at hd; omega)
 have H := hid h
 have HW := hid hW
 have HN := hid hN
 have klen := hN (eb.length + sumE es) (by omega)
 have hL4 := lenB_short (eb.length + sumE es)
 obtain ⟨TOT, hTOT⟩ : ∃ t, eb.length + sumE es = t := ⟨_, rfl⟩
 rw [hTOT] at klen hL4 hsum HP hZT
 obtain ⟨L, hL⟩ : ∃ L, lenB TOT = L := ⟨_, rfl⟩
 rw [hL] at klen hL4 HP hZT
 rw [hFB] at HP
 have HTOT := hid hTOT
 have klen' := hid klen
 clear ih sk tk h hW hN hsz hd hs ht hZ klen hTOT hL t1 t2 t3 t4
 unfold elA
 simp only [El.bytes, El.cls, El.tag, El.cons]
 have hfb0 : ek = false → C * 64 + Tg = FB := fun h => by rw [h] at hFB; simpa using hFB
 have hfb1 : ek = true → C * 64 + Tg + 32 = FB := fun h => by rw [h] at hFB; simpa using hFB
 have hFm : (FB : Int) % 256 = (FB : Int) := by omega
 have hFu : (UInt8.ofNat FB).toNat = FB := by simp [UInt8.toNat_ofNat']; omega
 clear hFB
 obtain ⟨M, hM⟩ : ∃ M, C * 64 + Tg = M := ⟨_, rfl⟩
 rw [hM] at hbits hbit2 hfb0 hfb1
 clear hM
 cases ek
 ·rw [hfb0 rfl] at hbits
  clear hbit2 hfb0 hfb1
  have b1 : Below w.heap.size w (w.alloc (.cells #[.int .i64 (C : Int), .int .i64 (Tg : Int), .bool false, .string ⟨eb.toArray⟩, .slice a es.length c] 45)) := (Below.refl _ _).alloc (Nat.le_refl _) _
  have r1 : (w.alloc (.cells #[.int .i64 (C : Int), .int .i64 (Tg : Int), .bool false, .string ⟨eb.toArray⟩, .slice a es.length c] 45)).heap[w.heap.size]? = some (.cells #[.int .i64 (C : Int), .int .i64 (Tg : Int), .bool false, .string ⟨eb.toArray⟩, .slice a es.length c] 45 (0, 0)) := alloc_at _ _ _ rfl
  go_enter Tryz.func70, Tryz.ntmps70
  refine wp_seq ?_
  refine wp_region_list ?_
  refine wpList_plain rfl fun K hK => ?_; go_simp; refine hK _ _ ?_; clear hK K
  generalize w.alloc (.cells #[.int .i64 (C : Int), .int .i64 (Tg : Int), .bool false, .string ⟨eb.toArray⟩, .slice a es.length c] 45) = w2 at b1 r1 ⊢
  have q0 : w2.cell? ⟨w.heap.size, 0, none⟩ = some (.int .i64 C) := (cell_of_heap r1 0).trans rfl
  have q1 : w2.cell? ⟨w.heap.size, 1, none⟩ = some (.int .i64 Tg) := (cell_of_heap r1 1).trans rfl
  have q2 : w2.cell? ⟨w.heap.size, 2, none⟩ = some (.bool false) := (cell_of_heap r1 2).trans rfl
  have q3 : w2.cell? ⟨w.heap.size, 3, none⟩ = some (.string ⟨eb.toArray⟩) := (cell_of_heap r1 3).trans rfl
  have q4 : w2.cell? ⟨w.heap.size, 4, none⟩ = some (.slice a es.length c) := (cell_of_heap r1 4).trans rfl
  have H2 := hid (H.out.below b1)
  have HW2 := hid (HW.out.below b1)
  have HR2 := hid r1
  have hwl : b < w.heap.size := by
   rcases HW.out with h | h
   ·obtain ⟨_, _, h, _⟩ := h; exact (gl h)
   ·obtain ⟨_, _, h, _⟩ := h; exact (gl h)
  clear r1 H HW
  go_wp2_with fail
  go_loopw [5, 26] (fun v i wr => ∃ k m : Nat, i = .int .i64 (k : Int) ∧ v = .int .i64 (m : Int) ∧ k ≤ es.length ∧ Below w2.heap.size w2 wr ∧ m + sumE (es.drop k) = TOT) (fun _ i _ => es.length - (RowKit.intOf i).toNat)
  case atStart => exact ⟨0, eb.length, rfl, rfl, Nat.zero_le _, Below.refl _ _, HTOT.out⟩
  case round =>
   clear q0 q1 q2 hbits
   obtain ⟨k, m, rfl, rfl, hk, hbe, hans⟩ := hrel
   by_cases hkl : k < es.length
   ·obtain ⟨e, he⟩ : ∃ e, es[k]? = some e := ⟨es[k], List.getElem?_eq_getElem hkl⟩
    obtain ⟨a', cap', e', _, hsrc⟩ := H2.out.below hbe
    cases e'
    obtain ⟨g, o, ha, _, hcells⟩ := hsrc (by intro h0; rw [h0] at hkl; simp at hkl)
    subst ha
    obtain ⟨p0, p1, p2, p3, u, p4, hu⟩ := (ElsC.get es g o k e hcells he).cells
    obtain ⟨au, cu, hfu⟩ := hu.shape
    subst hfu
    have hdep : depE e ≤ n := by have h1 := depL_get es k e he; have := HDE.out; omega
    rw [drop_at he] at hans
    simp only [sumE] at hans
    have i1 : (k : Int) < (es.length : Int) := by omega
    have i3 : decide ((k : Int) < (es.length : Int)) = true := decide_eq_true i1
    have m1 : Below wr.heap.size wr (wr.alloc (.cells #[.int .i64 e.cls, .int .i64 e.tag, .bool e.cons, .string ⟨e.bytes.toArray⟩, .slice au e.kids.length cu] 45)) := (Below.refl _ _).alloc (Nat.le_refl _) _
    have kr := size_any N HN.out n e hdep (SmL_get es k e HS.out he) (by have := HSZ.out k e he; omega) _ _ ((hu.mono (fun _ _ _ => trivial)).below m1)
    have hsz := hbe.size
    have hsm := m1.size
    have HB4 := hid (hbe.trans (m1.mono hbe.size))
    have hse := sizeE_le e
    obtain ⟨z, hzz⟩ : ∃ z, sizeE e = z := ⟨_, rfl⟩
    rw [hzz] at kr hans hse
    have hm9 : m + z ≤ 65536 := by omega
    have HANS := hid hans
    have hw1 : IntKind.i64.wrap ((m : Int) + (z : Int)) = (m : Int) + (z : Int) := by rw [IntKind.wrap_i64]; omega
    clear hsrc hcells he hu m1 hzz hans q3 q4
    unfold elA at kr
    go_wp2_with (refine wpList_loadRow rfl 45 (.tmp 7) rfl wr.heap.size 45 _ (0, 0) (by rfl) (alloc_at _ _ _ rfl) _ Tryz.underlying45 rfl (by rfl) ?_)
    refine Calls.mono kr ?_
    rintro e5 w5 ⟨rfl, hb5⟩
    have HB5 := hid (HB4.out.trans (hb5.mono (by omega)))
    clear hb5 kr
    go_wp2_with fail
    exact ⟨⟨k + 1, m + z, by go_num, by go_num, by omega, HB5.out, by have := HANS.out; omega⟩, by simp [RowKit.intOf]; omega⟩
   ·obtain rfl : k = es.length := by omega
    rw [List.drop_of_length_le (Nat.le_refl _)] at hans
    simp only [sumE, Nat.add_zero] at hans
    subst hans
    have i3 : decide ((es.length : Int) < (es.length : Int)) = false := decide_eq_false (by omega)
    have s3 := (hbe.cell (lt_of_cell q3)).trans q3
    have s4 := (hbe.cell (lt_of_cell q4)).trans q4
    have HR3 := hid ((hbe.block _ (gl HR2.out)).trans HR2.out)
    have hs1 := b1.size
    have hs2 := hbe.size
    have HW3 := HW2.out.below hbe
    have H3 := hid (H2.out.below hbe)
    have b3 : Below B w wr := (b1.mono hBw).trans (hbe.mono (by omega))
    have kb := W_WriteByte B b l (UInt8.ofNat FB) wr HW3 (by omega) (by omega)
    rw [hFu] at kb
    clear q3 q4 HW3 H2 HW2 HR2
    go_wp2_with fail
    refine Calls.mono kb ?_
    rintro e6 w6 ⟨rfl, hW6, hb6, hkw6⟩
    have HR6 := hkw6.2 _ _ _ _ HR3.out (by omega) (by decide)
    have kl := klen'.out w6
    have H6 := hid (H3.out.kept fun g hg _ => ⟨hb6.block g hg, hg⟩)
    have b6 := b3.trans hb6
    have hs6 := hb6.size
    clear kb s3 s4 HR3 H3 b3 hb6 hkw6
    go_wp2_with fail
    refine Calls.mono kl ?_
    rintro e7 w7 ⟨rfl, hb7⟩
    have hW7 := hW6.below hb7
    have HR7 := (hb7.block _ (gl HR6)).trans HR6
    have H7 := hid (H6.out.below hb7)
    have hs7 := hb7.size
    have b7 := b6.trans (hb7.mono (by omega))
    have kw := W_WriteString B b (l ++ [UInt8.ofNat FB]) L w7 hW7 (by simp; omega) (by omega) (by omega)
    clear kl hW6 HR6 H6 hb7 b6 hW7
    go_wp2_with fail
    refine Calls.mono kw ?_
    rintro e8 w8 ⟨rfl, hW8, hb8, hkw8⟩
    have HR8 := hkw8.2 _ _ _ _ HR7 (by omega) (by decide)
    have H8 := hid (H7.out.kept fun g hg _ => ⟨hb8.block g hg, hg⟩)
    have hs8 := hb8.size
    have b8 := b7.trans hb8
    have s3 : w8.cell? ⟨w.heap.size, 3, none⟩ = some (.string ⟨eb.toArray⟩) := (cell_of_heap HR8 3).trans rfl
    have kw2 := W_WriteString B b (l ++ [UInt8.ofNat FB] ++ L) eb w8 hW8 (by simp; omega) (by omega) (by omega)
    clear kw HR7 H7 hb8 hkw8 b7 hW8
    go_wp2_with fail
    refine Calls.mono kw2 ?_
    rintro e9 w9 ⟨rfl, hW9, hb9, hkw9⟩
    have HR9 := hkw9.2 _ _ _ _ HR8 (by omega) (by decide)
    have H9 := hid (H8.out.kept fun g hg _ => ⟨hb9.block g hg, hg⟩)
    have hs9 := hb9.size
    have b9 := b8.trans hb9
    have s4 : w9.cell? ⟨w.heap.size, 4, none⟩ = some (.slice a es.length c) := (cell_of_heap HR9 4).trans rfl
    have HW9 := hid hW9
    clear kw2 s3 HR8 H8 hb9 hkw9 b8 hW9 HR9
    go_wp2_with fail
    go_loopw [50] (fun i wr => ∃ k : Nat, i = .int .i64 (k : Int) ∧ k ≤ es.length ∧ IsW B b ((l ++ [UInt8.ofNat FB] ++ L ++ eb) ++ putL (es.take k)) wr ∧ Below B w9 wr) (fun i _ => es.length - (RowKit.intOf i).toNat)
    case atStart => exact ⟨0, rfl, Nat.zero_le _, by simpa [putL] using HW9.out, Below.refl _ _⟩
    case round =>
     clear s4
     obtain ⟨k, rfl, hk2, hWk, hbk⟩ := hrel
     have hsk := hbk.size
     by_cases hkl : k < es.length
     ·obtain ⟨e, he⟩ : ∃ e, es[k]? = some e := ⟨es[k], List.getElem?_eq_getElem hkl⟩
      obtain ⟨a', cap', e', _, hsrc⟩ := H9.out.kept (Q := fun g => g < B) fun g hg _ => ⟨hbk.block g hg, hg⟩
      cases e'
      obtain ⟨g, o, ha, _, hcells⟩ := hsrc (by intro h0; rw [h0] at hkl; simp at hkl)
      subst ha
      obtain ⟨p0, p1, p2, p3, u, p4, hu⟩ := (ElsC.get es g o k e hcells he).cells
      obtain ⟨au, cu, hfu⟩ := hu.shape
      subst hfu
      have hdep : depE e ≤ n := by have h1 := depL_get es k e he; have := HDE.out; omega
      have i1 : (k : Int) < (es.length : Int) := by omega
      have i3 : decide ((k : Int) < (es.length : Int)) = true := decide_eq_true i1
      have m1 : Below wr.heap.size wr (wr.alloc (.cells #[.int .i64 e.cls, .int .i64 e.tag, .bool e.cons, .string ⟨e.bytes.toArray⟩, .slice au e.kids.length cu] 45)) := (Below.refl _ _).alloc (Nat.le_refl _) _
      have hze := HSZ.out k e he
      have hts := take_snoc he
      have hsum2 : sumE (es.take k) + sizeE e ≤ sumE es := by have := sumE_take es (k + 1); rw [hts, sumE_snoc] at this; exact this
      have hpl := putL_len (es.take k) (fun j x hj => by
       have h1 : es[j]? = some x := by
        have hjl := (List.getElem?_eq_some_iff.1 hj).1
        rw [List.length_take] at hjl
        rw [List.getElem?_take_of_lt (by omega)] at hj
        exact hj
       have := HSZ.out j x h1; omega)
      have hT := HTOT.out
      have kr := IH.out e hdep (SmL_get es k e HS.out he) (by omega) (by omega) (AllL_get es k e HT.out he) B b ((l ++ [UInt8.ofNat FB] ++ L ++ eb) ++ putL (es.take k)) _ _ (hWk.below m1) (hu.below m1) (by have := m1.size; omega) (by simp [hpl]; omega)
      have hsm := m1.size
      have HB4 := hid (hbk.trans (m1.mono (by omega)))
      have HTS := hid hts
      clear hsrc hcells he hu m1 hpl hsum2 hT hts hze hWk
      unfold elA at kr
      go_wp2_with (refine wpList_loadRow rfl 45 (.tmp 9) rfl wr.heap.size 45 _ (0, 0) (by rfl) (alloc_at _ _ _ rfl) _ Tryz.underlying45 rfl (by rfl) ?_)
      refine Calls.mono kr ?_
      rintro e5 w5 ⟨rfl, hW5, hb5⟩
      have HB5 := hid (HB4.out.trans hb5)
      have HW5 := hid hW5
      clear hb5 kr hW5
      go_wp2_with fail
      exact ⟨⟨k + 1, by go_num, by omega, by rw [HTS.out, putL_snoc, ← List.append_assoc]; exact HW5.out, HB5.out⟩, by simp [RowKit.intOf]; omega⟩
     ·obtain rfl : k = es.length := by omega
      rw [List.take_of_length_le (Nat.le_refl _)] at hWk
      have i3 : decide ((es.length : Int) < (es.length : Int)) = false := decide_eq_false (by omega)
      have HWk := hid hWk
      clear hWk
      go_wp2_with fail
      go_end0
      exact ⟨rfl, by rw [HP.out]; simpa [List.append_assoc] using HWk.out, b9.trans hbk⟩
 ·rw [hfb1 rfl] at hbit2
  clear hfb0 hfb1
  have b1 : Below w.heap.size w (w.alloc (.cells #[.int .i64 (C : Int), .int .i64 (Tg : Int), .bool true, .string ⟨eb.toArray⟩, .slice a es.length c] 45)) := (Below.refl _ _).alloc (Nat.le_refl _) _
  have r1 : (w.alloc (.cells #[.int .i64 (C : Int), .int .i64 (Tg : Int), .bool true, .string ⟨eb.toArray⟩, .slice a es.length c] 45)).heap[w.heap.size]? = some (.cells #[.int .i64 (C : Int), .int .i64 (Tg : Int), .bool true, .string ⟨eb.toArray⟩, .slice a es.length c] 45 (0, 0)) := alloc_at _ _ _ rfl
  go_enter Tryz.func70, Tryz.ntmps70
  refine wp_seq ?_
  refine wp_region_list ?_
  refine wpList_plain rfl fun K hK => ?_; go_simp; refine hK _ _ ?_; clear hK K
  generalize w.alloc (.cells #[.int .i64 (C : Int), .int .i64 (Tg : Int), .bool true, .string ⟨eb.toArray⟩, .slice a es.length c] 45) = w2 at b1 r1 ⊢
  have q0 : w2.cell? ⟨w.heap.size, 0, none⟩ = some (.int .i64 C) := (cell_of_heap r1 0).trans rfl
  have q1 : w2.cell? ⟨w.heap.size, 1, none⟩ = some (.int .i64 Tg) := (cell_of_heap r1 1).trans rfl
  have q2 : w2.cell? ⟨w.heap.size, 2, none⟩ = some (.bool true) := (cell_of_heap r1 2).trans rfl
  have q3 : w2.cell? ⟨w.heap.size, 3, none⟩ = some (.string ⟨eb.toArray⟩) := (cell_of_heap r1 3).trans rfl
  have q4 : w2.cell? ⟨w.heap.size, 4, none⟩ = some (.slice a es.length c) := (cell_of_heap r1 4).trans rfl
  have H2 := hid (H.out.below b1)
  have HW2 := hid (HW.out.below b1)
  have HR2 := hid r1
  have hwl : b < w.heap.size := by
   rcases HW.out with h | h
   ·obtain ⟨_, _, h, _⟩ := h; exact (gl h)
   ·obtain ⟨_, _, h, _⟩ := h; exact (gl h)
  clear r1 H HW
  go_wp2_with fail
  go_loopw [5, 26] (fun v i wr => ∃ k m : Nat, i = .int .i64 (k : Int) ∧ v = .int .i64 (m : Int) ∧ k ≤ es.length ∧ Below w2.heap.size w2 wr ∧ m + sumE (es.drop k) = TOT) (fun _ i _ => es.length - (RowKit.intOf i).toNat)
  case atStart => exact ⟨0, eb.length, rfl, rfl, Nat.zero_le _, Below.refl _ _, HTOT.out⟩
  case round =>
   clear q0 q1 q2 hbits hbit2
   obtain ⟨k, m, rfl, rfl, hk, hbe, hans⟩ := hrel
   by_cases hkl : k < es.length
   ·obtain ⟨e, he⟩ : ∃ e, es[k]? = some e := ⟨es[k], List.getElem?_eq_getElem hkl⟩
    obtain ⟨a', cap', e', _, hsrc⟩ := H2.out.below hbe
    cases e'
    obtain ⟨g, o, ha, _, hcells⟩ := hsrc (by intro h0; rw [h0] at hkl; simp at hkl)
    subst ha
    obtain ⟨p0, p1, p2, p3, u, p4, hu⟩ := (ElsC.get es g o k e hcells he).cells
    obtain ⟨au, cu, hfu⟩ := hu.shape
    subst hfu
    have hdep : depE e ≤ n := by have h1 := depL_get es k e he; have := HDE.out; omega
    rw [drop_at he] at hans
    simp only [sumE] at hans
    have i1 : (k : Int) < (es.length : Int) := by omega
    have i3 : decide ((k : Int) < (es.length : Int)) = true := decide_eq_true i1
    have m1 : Below wr.heap.size wr (wr.alloc (.cells #[.int .i64 e.cls, .int .i64 e.tag, .bool e.cons, .string ⟨e.bytes.toArray⟩, .slice au e.kids.length cu] 45)) := (Below.refl _ _).alloc (Nat.le_refl _) _
    have kr := size_any N HN.out n e hdep (SmL_get es k e HS.out he) (by have := HSZ.out k e he; omega) _ _ ((hu.mono (fun _ _ _ => trivial)).below m1)
    have hsz := hbe.size
    have hsm := m1.size
    have HB4 := hid (hbe.trans (m1.mono hbe.size))
    have hse := sizeE_le e
    obtain ⟨z, hzz⟩ : ∃ z, sizeE e = z := ⟨_, rfl⟩
    rw [hzz] at kr hans hse
    have hm9 : m + z ≤ 65536 := by omega
    have HANS := hid hans
    have hw1 : IntKind.i64.wrap ((m : Int) + (z : Int)) = (m : Int) + (z : Int) := by rw [IntKind.wrap_i64]; omega
    clear hsrc hcells he hu m1 hzz hans q3 q4
    unfold elA at kr
    go_wp2_with (refine wpList_loadRow rfl 45 (.tmp 7) rfl wr.heap.size 45 _ (0, 0) (by rfl) (alloc_at _ _ _ rfl) _ Tryz.underlying45 rfl (by rfl) ?_)
    refine Calls.mono kr ?_
    rintro e5 w5 ⟨rfl, hb5⟩
    have HB5 := hid (HB4.out.trans (hb5.mono (by omega)))
    clear hb5 kr
    go_wp2_with fail
    exact ⟨⟨k + 1, m + z, by go_num, by go_num, by omega, HB5.out, by have := HANS.out; omega⟩, by simp [RowKit.intOf]; omega⟩
   ·obtain rfl : k = es.length := by omega
    rw [List.drop_of_length_le (Nat.le_refl _)] at hans
    simp only [sumE, Nat.add_zero] at hans
    subst hans
    have i3 : decide ((es.length : Int) < (es.length : Int)) = false := decide_eq_false (by omega)
    have s3 := (hbe.cell (lt_of_cell q3)).trans q3
    have s4 := (hbe.cell (lt_of_cell q4)).trans q4
    have HR3 := hid ((hbe.block _ (gl HR2.out)).trans HR2.out)
    have hs1 := b1.size
    have hs2 := hbe.size
    have HW3 := HW2.out.below hbe
    have H3 := hid (H2.out.below hbe)
    have b3 : Below B w wr := (b1.mono hBw).trans (hbe.mono (by omega))
    have kb := W_WriteByte B b l (UInt8.ofNat FB) wr HW3 (by omega) (by omega)
    rw [hFu] at kb
    clear q3 q4 HW3 H2 HW2 HR2
    go_wp2_with fail
    refine Calls.mono kb ?_
    rintro e6 w6 ⟨rfl, hW6, hb6, hkw6⟩
    have HR6 := hkw6.2 _ _ _ _ HR3.out (by omega) (by decide)
    have kl := klen'.out w6
    have H6 := hid (H3.out.kept fun g hg _ => ⟨hb6.block g hg, hg⟩)
    have b6 := b3.trans hb6
    have hs6 := hb6.size
    clear kb s3 s4 HR3 H3 b3 hb6 hkw6
    go_wp2_with fail
    refine Calls.mono kl ?_
    rintro e7 w7 ⟨rfl, hb7⟩
    have hW7 := hW6.below hb7
    have HR7 := (hb7.block _ (gl HR6)).trans HR6
    have H7 := hid (H6.out.below hb7)
    have hs7 := hb7.size
    have b7 := b6.trans (hb7.mono (by omega))
    have kw := W_WriteString B b (l ++ [UInt8.ofNat FB]) L w7 hW7 (by simp; omega) (by omega) (by omega)
    clear kl hW6 HR6 H6 hb7 b6 hW7
    go_wp2_with fail
    refine Calls.mono kw ?_
    rintro e8 w8 ⟨rfl, hW8, hb8, hkw8⟩
    have HR8 := hkw8.2 _ _ _ _ HR7 (by omega) (by decide)
    have H8 := hid (H7.out.kept fun g hg _ => ⟨hb8.block g hg, hg⟩)
    have hs8 := hb8.size
    have b8 := b7.trans hb8
    have s3 : w8.cell? ⟨w.heap.size, 3, none⟩ = some (.string ⟨eb.toArray⟩) := (cell_of_heap HR8 3).trans rfl
    have kw2 := W_WriteString B b (l ++ [UInt8.ofNat FB] ++ L) eb w8 hW8 (by simp; omega) (by omega) (by omega)
    clear kw HR7 H7 hb8 hkw8 b7 hW8
    go_wp2_with fail
    refine Calls.mono kw2 ?_
    rintro e9 w9 ⟨rfl, hW9, hb9, hkw9⟩
    have HR9 := hkw9.2 _ _ _ _ HR8 (by omega) (by decide)
    have H9 := hid (H8.out.kept fun g hg _ => ⟨hb9.block g hg, hg⟩)
    have hs9 := hb9.size
    have b9 := b8.trans hb9
    have s4 : w9.cell? ⟨w.heap.size, 4, none⟩ = some (.slice a es.length c) := (cell_of_heap HR9 4).trans rfl
    have HW9 := hid hW9
    clear kw2 s3 HR8 H8 hb9 hkw9 b8 hW9 HR9
    go_wp2_with fail
    go_loopw [50] (fun i wr => ∃ k : Nat, i = .int .i64 (k : Int) ∧ k ≤ es.length ∧ IsW B b ((l ++ [UInt8.ofNat FB] ++ L ++ eb) ++ putL (es.take k)) wr ∧ Below B w9 wr) (fun i _ => es.length - (RowKit.intOf i).toNat)
    case atStart => exact ⟨0, rfl, Nat.zero_le _, by simpa [putL] using HW9.out, Below.refl _ _⟩
    case round =>
     clear s4
     obtain ⟨k, rfl, hk2, hWk, hbk⟩ := hrel
     have hsk := hbk.size
     by_cases hkl : k < es.length
     ·obtain ⟨e, he⟩ : ∃ e, es[k]? = some e := ⟨es[k], List.getElem?_eq_getElem hkl⟩
      obtain ⟨a', cap', e', _, hsrc⟩ := H9.out.kept (Q := fun g => g < B) fun g hg _ => ⟨hbk.block g hg, hg⟩
      cases e'
      obtain ⟨g, o, ha, _, hcells⟩ := hsrc (by intro h0; rw [h0] at hkl; simp at hkl)
      subst ha
      obtain ⟨p0, p1, p2, p3, u, p4, hu⟩ := (ElsC.get es g o k e hcells he).cells
      obtain ⟨au, cu, hfu⟩ := hu.shape
      subst hfu
      have hdep : depE e ≤ n := by have h1 := depL_get es k e he; have := HDE.out; omega
      have i1 : (k : Int) < (es.length : Int) := by omega
      have i3 : decide ((k : Int) < (es.length : Int)) = true := decide_eq_true i1
      have m1 : Below wr.heap.size wr (wr.alloc (.cells #[.int .i64 e.cls, .int .i64 e.tag, .bool e.cons, .string ⟨e.bytes.toArray⟩, .slice au e.kids.length cu] 45)) := (Below.refl _ _).alloc (Nat.le_refl _) _
      have hze := HSZ.out k e he
      have hts := take_snoc he
      have hsum2 : sumE (es.take k) + sizeE e ≤ sumE es := by have := sumE_take es (k + 1); rw [hts, sumE_snoc] at this; exact this
      have hpl := putL_len (es.take k) (fun j x hj => by
       have h1 : es[j]? = some x := by
        have hjl := (List.getElem?_eq_some_iff.1 hj).1
        rw [List.length_take] at hjl
        rw [List.getElem?_take_of_lt (by omega)] at hj
        exact hj
       have := HSZ.out j x h1; omega)
      have hT := HTOT.out
      have kr := IH.out e hdep (SmL_get es k e HS.out he) (by omega) (by omega) (AllL_get es k e HT.out he) B b ((l ++ [UInt8.ofNat FB] ++ L ++ eb) ++ putL (es.take k)) _ _ (hWk.below m1) (hu.below m1) (by have := m1.size; omega) (by simp [hpl]; omega)
      have hsm := m1.size
      have HB4 := hid (hbk.trans (m1.mono (by omega)))
      have HTS := hid hts
      clear hsrc hcells he hu m1 hpl hsum2 hT hts hze hWk
      unfold elA at kr
      go_wp2_with (refine wpList_loadRow rfl 45 (.tmp 9) rfl wr.heap.size 45 _ (0, 0) (by rfl) (alloc_at _ _ _ rfl) _ Tryz.underlying45 rfl (by rfl) ?_)
      refine Calls.mono kr ?_
      rintro e5 w5 ⟨rfl, hW5, hb5⟩
      have HB5 := hid (HB4.out.trans hb5)
      have HW5 := hid hW5
      clear hb5 kr hW5
      go_wp2_with fail
      exact ⟨⟨k + 1, by go_num, by omega, by rw [HTS.out, putL_snoc, ← List.append_assoc]; exact HW5.out, HB5.out⟩, by simp [RowKit.intOf]; omega⟩
     ·obtain rfl : k = es.length := by omega
      rw [List.take_of_length_le (Nat.le_refl _)] at hWk
      have i3 : decide ((es.length : Int) < (es.length : Int)) = false := decide_eq_false (by omega)
      have HWk := hid hWk
      clear hWk
      go_wp2_with fail
      go_end0
      exact ⟨rfl, by rw [HP.out]; simpa [List.append_assoc] using HWk.out, b9.trans hbk⟩
theorem putE_ne (e : El) : putE e ≠ [] := by
 rw [putE_eq]; simp
set_option maxRecDepth 100000 in
set_option maxHeartbeats 4000000 in
theorem BWrite_any (N : Nat) (hN : LenOk N) (el : El) (hs : SmE el) (hz : sizeE el ≤ N) (u : Value) (w : World) (h : KidsAt (fun _ => True) w u el.kids) :
  Calls Tryz.prog 30 #[.agg (elA el u)] w fun e w' => e = .returned (.tuple #[.string ⟨(writeE el).1.toArray⟩, .int .i64 (writeE el).2]) ∧ Below w.heap.size w w' := by
 obtain ⟨s, n, hsn⟩ : ∃ s n, writeE el = (s, n) := ⟨_, _, rfl⟩
 rw [hsn]
 simp only
 have HSN := hid hsn
 have HS := hid hs
 obtain ⟨a, c, hf⟩ := h.shape
 subst hf
 have b1 : Below w.heap.size w (w.alloc (.cells #[.int .i64 el.cls, .int .i64 el.tag, .bool el.cons, .string ⟨el.bytes.toArray⟩, .slice a el.kids.length c] 45)) := (Below.refl _ _).alloc (Nat.le_refl _) _
 have r1 : (w.alloc (.cells #[.int .i64 el.cls, .int .i64 el.tag, .bool el.cons, .string ⟨el.bytes.toArray⟩, .slice a el.kids.length c] 45)).heap[w.heap.size]? = some (.cells #[.int .i64 el.cls, .int .i64 el.tag, .bool el.cons, .string ⟨el.bytes.toArray⟩, .slice a el.kids.length c] 45 (0, 0)) := alloc_at _ _ _ rfl
 have H1 := hid (h.below b1)
 clear h hsn hs
 unfold elA
 go_enter Tryz.func30, Tryz.ntmps30
 refine wp_seq ?_
 refine wp_region_list ?_
 refine wpList_plain rfl fun K hK => ?_; go_simp; refine hK _ _ ?_; clear hK K
 generalize w.alloc (.cells #[.int .i64 el.cls, .int .i64 el.tag, .bool el.cons, .string ⟨el.bytes.toArray⟩, .slice a el.kids.length c] 45) = w1 at b1 r1 H1 ⊢
 have k1 := each_hasTag (depE el) el (Nat.le_refl _) HS.out 0 (by omega) _ w1 H1.out
 unfold elA at k1
 go_wp2_with (refine wpList_loadRow rfl 45 (.tmp 1) rfl w.heap.size 45 _ (0, 0) (by rfl) r1 _ Tryz.underlying45 rfl (by rfl) ?_)
 refine Calls.mono k1 ?_
 rintro e2 w2 ⟨rfl, hb2⟩
 have r2 := (hb2.block _ (gl r1)).trans r1
 have b2 := b1.trans (hb2.mono b1.size)
 have H2 := hid (H1.out.below hb2)
 clear k1 b1 r1 H1 hb2
 obtain ⟨B1, h1⟩ : ∃ B, eachE hasTagE 0 el = B := ⟨_, rfl⟩
 rw [h1]
 cases B1 with
 | false =>
  have hr := HSN.out
  simp only [writeE, h1, if_true] at hr
  cases hr
  clear h1
  go_wp2_with fail
  go_ret2
  exact ⟨rfl, b2⟩
 | true =>
  have k2 := each_hasForm (depE el) el (Nat.le_refl _) HS.out 0 (by omega) _ w2 H2.out
  unfold elA at k2
  have HH1 := hid h1
  clear h1
  go_wp2_with (refine wpList_loadRow rfl 45 (.tmp 1) rfl w.heap.size 45 _ (0, 0) (by rfl) r2 _ Tryz.underlying45 rfl (by rfl) ?_)
  refine Calls.mono k2 ?_
  rintro e3 w3 ⟨rfl, hb3⟩
  have r3 := (hb3.block _ (gl r2)).trans r2
  have b3 := b2.trans (hb3.mono b2.size)
  have H3 := hid (H2.out.below hb3)
  clear k2 b2 r2 H2 hb3
  obtain ⟨B2, h2⟩ : ∃ B, eachE hasFormE 0 el = B := ⟨_, rfl⟩
  rw [h2]
  cases B2 with
  | false =>
   have hr := HSN.out
   simp only [writeE, HH1.out, h2, if_true] at hr
   rw [if_neg (by simp)] at hr
   cases hr
   clear h2
   go_wp2_with fail
   go_ret2
   exact ⟨rfl, b3⟩
  | true =>
   have k3 := deep_any (depE el) el (Nat.le_refl _) HS.out 0 (by omega) _ w3 H3.out
   unfold elA at k3
   have HH2 := hid h2
   clear h2
   go_wp2_with (refine wpList_loadRow rfl 45 (.tmp 1) rfl w.heap.size 45 _ (0, 0) (by rfl) r3 _ Tryz.underlying45 rfl (by rfl) ?_)
   refine Calls.mono k3 ?_
   rintro e4 w4 ⟨rfl, hb4⟩
   have r4 := (hb4.block _ (gl r3)).trans r3
   have b4 := b3.trans (hb4.mono b3.size)
   have H4 := hid (H3.out.below hb4)
   clear k3 b3 r3 H3 hb4
   obtain ⟨B3, h3⟩ : ∃ B, deepE 0 el = B := ⟨_, rfl⟩
   rw [h3]
   cases B3 with
   | true =>
    have hr := HSN.out
    simp only [writeE, HH1.out, HH2.out, h3, if_true] at hr
    rw [if_neg (by simp), if_neg (by simp)] at hr
    cases hr
    clear h3
    go_wp2_with fail
    go_ret2
    exact ⟨rfl, b4⟩
   | false =>
    have k4 := size_any N hN (depE el) el (Nat.le_refl _) HS.out hz _ w4 H4.out
    unfold elA at k4
    have HH3 := hid h3
    clear h3
    go_wp2_with (refine wpList_loadRow rfl 45 (.tmp 1) rfl w.heap.size 45 _ (0, 0) (by rfl) r4 _ Tryz.underlying45 rfl (by rfl) ?_)
    refine Calls.mono k4 ?_
    rintro e5 w5 ⟨rfl, hb5⟩
    have r5 := (hb5.block _ (gl r4)).trans r4
    have b5 := b4.trans (hb5.mono b4.size)
    have H5 := hid (H4.out.below hb5)
    clear k4 b4 r4 H4 hb5
    by_cases h6 : 65536 < sizeE el
    ·have hr := HSN.out
     simp only [writeE, HH1.out, HH2.out, HH3.out, h6, if_true] at hr
     rw [if_neg (by simp), if_neg (by simp), if_neg (by simp)] at hr
     cases hr
     have g6 : decide ((65536 : Int) < (sizeE el : Int)) = true := decide_eq_true (by omega)
     go_wp2_with fail
     go_ret2
     exact ⟨rfl, b5⟩
    ·have hr := HSN.out
     simp only [writeE, HH1.out, HH2.out, HH3.out, h6, if_false] at hr
     rw [if_neg (by simp), if_neg (by simp), if_neg (by simp)] at hr
     cases hr
     have g6 : decide ((65536 : Int) < (sizeE el : Int)) = false := decide_eq_false (by omega)
     have m5 : Below w5.heap.size w5 (w5.alloc (.cells #[.pointer none, .slice none 0 0] 101)) := (Below.refl _ _).alloc (Nat.le_refl _) _
     have hW : IsW w5.heap.size w5.heap.size [] (w5.alloc (.cells #[.pointer none, .slice none 0 0] 101)) := Lib.fresh_isBuilder _ _ _
     have r6 := (m5.block _ (gl r5)).trans r5
     have kp := put_any N hN (depE el) el (Nat.le_refl _) HS.out hz (by omega) (all_of hasTagE 0 el HH1.out HH3.out) w5.heap.size w5.heap.size [] _ _ hW (H5.out.kept fun g _ hg => ⟨m5.block g hg, hg⟩) (by simp) (by simp; omega)
     unfold elA at kp
     have b6 := b5.trans (m5.mono b5.size)
     have hs5 := b5.size
     clear hW m5 r5 H5
     go_wp2_with (refine wpList_loadRow rfl 45 (.tmp 1) rfl w.heap.size 45 _ (0, 0) (by rfl) r6 _ Tryz.underlying45 rfl (by rfl) ?_)
     refine Calls.mono kp ?_
     rintro e7 w7 ⟨rfl, hW7, hb7⟩
     have ks := W_String w5.heap.size w5.heap.size _ w7 hW7 (by simpa using putE_ne el)
     have b7 := b6.trans (hb7.mono (by omega))
     clear kp hW7 hb7 b6 r6
     go_wp2_with fail
     refine Calls.mono ks ?_
     rintro e8 w8 ⟨rfl, hb8⟩
     have b8 := b7.trans (hb8.mono (by omega))
     clear ks hb8
     go_wp2_with fail
     go_ret2
     exact ⟨by simp, b8⟩
end Go.Proofs.YthjaiigijbjloaaGreatDoor
