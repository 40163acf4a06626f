/- BerF, BerG, BerH, BerI, BerJ, MsN. -/
import Derived.OwnWalk
import Derived.Defers
import Derived.Recover
import Derived.Laws.Pointers
import Derived.Test.YthjaiigijbjloaaGreatDoorT1
namespace Go.Proofs.YthjaiigijbjloaaGreatDoor
open Go.RowKit Go.Lib
set_option maxRecDepth 100000
set_option maxHeartbeats 16000000
theorem mx : jw 127 := by
 intro n hn w;have g1 : decide ((n : Int) < 128) = true := aA (by omega);have hl : cd n = [UInt8.ofNat n] := by unfold cd; rw [if_pos (by omega)]
 rw [hl];have hw1 : IntKind.u8.wrap (n : Int) = (n : Int) := by rw [IntKind.wrap_u8]; omega
 have hnb : (UInt8.ofNat n).toNat = n := by simp [UInt8.toNat_ofNat']; omega
 have hcv : (convert 39 9 (.slice (some ⟨w.heap.size, 0, none⟩) 1 1)).run Tryz.prog (w.alloc (.cells #[.int .u8 (n : Int)] 5)) = .ok (.string ⟨#[UInt8.ofNat n]⟩) (w.alloc (.cells #[.int .u8 (n : Int)] 5)) :=
  eU _ _ _ 5 _ 1 [UInt8.ofNat n] Tryz.underlying39 Tryz.underlying5 Tryz.underlying9 (by rw [show bV [UInt8.ofNat n] = [.int .u8 (n : Int)] by simp [bV, hnb]]; exact World.news_of_block (bi _ _ _ rfl))
 have b1 := alb w #[.int .u8 (n : Int)] 5;clear hnb hl
 go_enter Tryz.func109, Tryz.ntmps109
 go_wp2_with fail
 go_ret
 exact ⟨rfl, b1⟩
theorem IsW.below {B b : Nat} {l : List UInt8} {w w' : World} (h : IsW B b l w) (hb : Below w.heap.size w w') : IsW B b l w' := by
 have : ∀ p, WAt B b p l w → WAt B b p l w' := by
  rintro p ⟨hB, v, hbk, hown, hne⟩;exact ⟨hB, v, by rw [hb.block b (gl hbk)]; exact hbk, ge hown hb, hne⟩
 exact h.elim (fun x => .inl (this _ x)) (fun x => .inr (this _ x))
mutual
def jO (p : El → Bool) : El → Prop
 | .mk c t k b ks => p (.mk c t k b ks) = true ∧ iI p ks
def iI (p : El → Bool) : List El → Prop
 | [] => True
 | e :: r => jO p e ∧ iI p r
end
mutual
theorem qB (p : El → Bool) : ∀ (d : Nat) (e : El), dM p d e = true → eW d e = false → jO p e
 | d, .mk c t k b ks, h, hd => by
  simp only [dM, eW] at h hd
  by_cases h20 : 20 ≤ d
  ·rw [if_pos h20] at hd; cases hd
  ·rw [if_neg h20] at h hd
   simp only [aI] at h;simp only [jO];exact ⟨h.1, oq p (d + 1) ks h.2 hd⟩
theorem oq (p : El → Bool) : ∀ (d : Nat) (l : List El), dS p d l = true → eX d l = false → iI p l
 | _, [], _, _ => by simp only [iI]
 | d, e :: r, h, hd => by
  simp only [dS, eX, aI, Bool.or_eq_false_iff] at h hd;simp only [iI];exact ⟨qB p d e h.1 hd.1, oq p d r h.2 hd.2⟩
end
theorem pd {p : El → Bool} {e : El} (h : jO p e) : p e = true ∧ iI p e.kids := by
 cases e
 simpa only [jO, El.kids] using h
theorem jP {p : El → Bool} : ∀ (l : List El) (j : Nat) (e : El), iI p l → l[j]? = some e → jO p e
 | [], _, _, _, h => by simp at h
 | x :: r, 0, e, h, hj => by simp at hj; subst hj; simp only [iI] at h; exact h.1
 | x :: r, j + 1, e, h, hj => by simp only [iI] at h; exact jP r j e h.2 (by simpa using hj)
theorem gW : ∀ (l : List El) (n : Nat), cw n l < 65537 → cw n l = n + bR l
 | [], n, _ => by simp only [cw, bR]; omega
 | e :: r, n, h => by
  simp only [cw, bR] at h ⊢;have h1 := jJ r (min (n + bK e) 65537);have h2 : min (n + bK e) 65537 = n + bK e := by omega
  rw [h2] at h ⊢;rw [gW r _ h]
  omega
theorem jf : ∀ (l : List El) (k : Nat), bR (l.take k) ≤ bR l
 | [], _ => by simp [bR]
 | x :: r, 0 => by simp [bR]
 | x :: r, k + 1 => by
  have := jf r k;simp only [List.take_succ_cons, bR]
  omega
theorem jg : ∀ (l : List El) (e : El), bR (l ++ [e]) = bR l + bK e
 | [], e => by simp [bR]
 | x :: r, e => by
  have := jg r e;simp only [List.cons_append, bR, this]
  omega
theorem jh : ∀ (l : List El) (e : El), dq (l ++ [e]) = dq l ++ eJ e
 | [], e => by simp [dq]
 | x :: r, e => by
  have := jh r e;simp only [List.cons_append, dq, this, List.append_assoc]
theorem ll {α : Type} {l : List α} {k : Nat} {e : α} (h : l[k]? = some e) : l.take (k + 1) = l.take k ++ [e] := by
 rw [List.take_add_one, h]; rfl
theorem ou (e : El) : eJ e = UInt8.ofNat (e.cls.toNat * 64 + e.tag.toNat + (if e.cons then 32 else 0)) :: cd (e.bytes.length + bR e.kids) ++ e.bytes ++ dq e.kids := by
 cases e; simp only [eJ, El.cls, El.tag, El.cons, El.bytes, El.kids]; rfl
mutual
theorem rT : ∀ (e : El), bK e ≤ 65536 → (eJ e).length = bK e
 | .mk c t k b ks, h => by
  simp only [bK] at h;have h1 : cw b.length ks < 65537 := by omega
  have h2 := gW ks b.length h1;have h3 := iJ ks (fun j e hj => by have := gP ks b.length j e hj; omega);simp only [eJ, bK, bd, aG, h3];rw [h2] at h ⊢;rw [show min (b.length + bR ks) 65537 = b.length + bR ks by omega] at h ⊢
  omega
theorem iJ : ∀ (l : List El), (∀ (j : Nat) (e : El), l[j]? = some e → bK e ≤ 65536) → (dq l).length = bR l
 | [], _ => rfl
 | e :: r, h => by
  simp only [dq, bR, bd];rw [rT e (h 0 e rfl), iJ r (fun j x hj => h (j + 1) x (by simpa using hj))]
end
theorem sY (N : Nat) (hN : jw N) (n : Nat) : ∀ (el : El), ex el ≤ n → SmE el → bK el ≤ N → bK el ≤ 65536 → jO cn el → ∀ (B b : Nat) (l : List UInt8) (u : Value) (w : World), IsW B b l w → bf (fun g => g < B) w u el.kids → B ≤ w.heap.size → l.length + bK el ≤ 1000000000 →
  Calls Tryz.prog 70 #[.pointer (some ⟨b, 0, none⟩), .agg (elA el u)] w fun e w' => e = .returned (.tuple #[]) ∧ IsW B b (l ++ eJ el) w' ∧ Below B w w' := by
 induction n with
 | zero => intro el hd; rw [eu] at hd; omega
 | succ n ih =>
 intro el hd hs hz hz6 ht B b l u w hW h hBw hll;obtain ⟨a, c, hf⟩ := h.shape;subst hf;obtain ⟨sb, sl, sk⟩ := dV hs;obtain ⟨tg, tk⟩ := pd ht;have b1 := alb w (Er el a c) 45;have r1 := alz w (Er el a c) 45;obtain ⟨ec, et, ek, eb, es⟩ := el;simp only [El.kids, El.bytes] at *;simp only [cn, aI, aT] at tg;obtain ⟨⟨⟨t1, t2⟩, t3⟩, t4⟩ := tg;obtain ⟨C, rfl⟩ : ∃ C : Nat, ec = (C : Int) := ⟨ec.toNat, by omega⟩;obtain ⟨Tg, rfl⟩ : ∃ C : Nat, et = (C : Int) := ⟨et.toNat, by omega⟩;have hC : C < 4 := by omega
 have hTg : Tg < 31 := by omega
 have hbits : bits BinOp.or IntKind.i64 ((C : Int) * 64) (Tg : Int) = ((C * 64 + Tg : Nat) : Int) := by
  have : ∀ (c : Fin 4) (t : Fin 31), bits BinOp.or IntKind.i64 ((c.val : Int) * 64) (t.val : Int) = ((c.val * 64 + t.val : Nat) : Int) := by decide +kernel
  exact this ⟨C, hC⟩ ⟨Tg, hTg⟩
 have hbit2 : bits BinOp.or IntKind.i64 ((C * 64 + Tg : Nat) : Int) 32 = ((C * 64 + Tg + 32 : Nat) : Int) := by
  have : ∀ (c : Fin 4) (t : Fin 31), bits BinOp.or IntKind.i64 ((c.val * 64 + t.val : Nat) : Int) 32 = ((c.val * 64 + t.val + 32 : Nat) : Int) := by decide +kernel
  exact this ⟨C, hC⟩ ⟨Tg, hTg⟩
 obtain ⟨Z, hZ⟩ : ∃ Z, bK (.mk (C : Int) (Tg : Int) ek eb es) = Z := ⟨_, rfl⟩;have hsum : eb.length + bR es ≤ Z := by
  have h1 := ix (.mk (C : Int) (Tg : Int) ek eb es);simp only [El.kids, El.bytes] at h1;rw [hZ] at h1 hz6;have h2 := gW es eb.length (by omega)
  omega
 have hZT : 1 + (cd (eb.length + bR es)).length + (eb.length + bR es) = Z := by
  have h1 := iw (.mk (C : Int) (Tg : Int) ek eb es);simp only [El.kids, El.bytes] at h1;rw [hZ] at h1 hz6;have h2 := gW es eb.length (by omega);rw [h2] at h1;rw [show min (eb.length + bR es) 65537 = eb.length + bR es by omega] at h1
  omega
 rw [hZ] at hz hz6 hll;have HP := hid (show eJ (.mk (C : Int) (Tg : Int) ek eb es) = UInt8.ofNat (C * 64 + Tg + (if ek then 32 else 0)) :: cd (eb.length + bR es) ++ eb ++ dq es from by rw [ou]; rfl);obtain ⟨FB, hFB⟩ : ∃ FB, C * 64 + Tg + (if ek then 32 else 0) = FB := ⟨_, rfl⟩;have hFB2 : FB < 256 := by rw [← hFB]; split <;> omega
 have hsz : ∀ (j : Nat) (e : El), es[j]? = some e → bK e ≤ Z := fun j e he => by
  have h1 := gP es eb.length j e he;have h2 := ix (.mk (C : Int) (Tg : Int) ek eb es);simp only [El.kids, El.bytes] at h2;rw [hZ] at h2
  omega
 have HSZ := hid hsz;have IH := hid ih;have HS := hid sk;have HT := hid tk;have HDE := hid (show fT es ≤ n from by simp only [ex] at hd; omega);have H := hid h;have HW := hid hW;have HN := hid hN;have klen := hN (eb.length + bR es) (by omega);have hL4 := jW (eb.length + bR es);obtain ⟨TOT, hTOT⟩ : ∃ t, eb.length + bR es = t := ⟨_, rfl⟩;rw [hTOT] at klen hL4 hsum HP hZT;obtain ⟨L, hL⟩ : ∃ L, cd TOT = L := ⟨_, rfl⟩;rw [hL] at klen hL4 HP hZT;rw [hFB] at HP;have HTOT := hid hTOT;have klen' := hid klen;clear ih sk tk h hW hN hsz hd hs ht hZ klen hTOT hL t1 t2 t3 t4;unfold elA;simp only [El.bytes, El.cls, El.tag, El.cons];have hfb0 : ek = false → C * 64 + Tg = FB := fun h => by rw [h] at hFB; simpa using hFB
 have hfb1 : ek = true → C * 64 + Tg + 32 = FB := fun h => by rw [h] at hFB; simpa using hFB
 have hFm : (FB : Int) % 256 = (FB : Int) := by omega
 have hFu : (UInt8.ofNat FB).toNat = FB := by simp [UInt8.toNat_ofNat']; omega
 clear hFB;obtain ⟨M, hM⟩ : ∃ M, C * 64 + Tg = M := ⟨_, rfl⟩;rw [hM] at hbits hbit2 hfb0 hfb1;clear hM;cases ek
 ·rw [hfb0 rfl] at hbits
  clear hbit2 hfb0 hfb1;have b1 := alb w #[.int .i64 (C : Int), .int .i64 (Tg : Int), Bf, .string ⟨eb.toArray⟩, .slice a es.length c] 45;have r1 := alz w #[.int .i64 (C : Int), .int .i64 (Tg : Int), Bf, .string ⟨eb.toArray⟩, .slice a es.length c] 45
  go_enter Tryz.func70, Tryz.ntmps70
  refine wp_seq ?_;refine aQ ?_;refine aB rfl fun K hK => ?_; go_simp; refine hK _ _ ?_; clear hK K
  generalize w.alloc (.cells #[.int .i64 (C : Int), .int .i64 (Tg : Int), Bf, .string ⟨eb.toArray⟩, .slice a es.length c] 45) = w2 at b1 r1 ⊢;have q0 : w2.cell? ⟨w.heap.size, 0, none⟩ = some (.int .i64 C) := (ad r1 0).trans rfl;have q1 : w2.cell? ⟨w.heap.size, 1, none⟩ = some (.int .i64 Tg) := (ad r1 1).trans rfl;have q2 : w2.cell? ⟨w.heap.size, 2, none⟩ = some (Bf) := (ad r1 2).trans rfl;have q3 : w2.cell? ⟨w.heap.size, 3, none⟩ = some (.string ⟨eb.toArray⟩) := (ad r1 3).trans rfl;have q4 : w2.cell? ⟨w.heap.size, 4, none⟩ = some (.slice a es.length c) := (ad r1 4).trans rfl;have H2 := hid (H.out.below b1);have HW2 := hid (HW.out.below b1);have HR2 := hid r1;have hwl : b < w.heap.size := by
   rcases HW.out with h | h
   ·obtain ⟨_, _, h, _⟩ := h; exact (gl h)
   ·obtain ⟨_, _, h, _⟩ := h; exact (gl h)
  clear r1 H HW
  go_wp2_with fail
  go_loopw [5, 26] (fun v i wr => ∃ k m : Nat, i = .int .i64 (k : Int) ∧ v = .int .i64 (m : Int) ∧ k ≤ es.length ∧ Below w2.heap.size w2 wr ∧ m + bR (es.drop k) = TOT) (fun _ i _ => es.length - (RowKit.intOf i).toNat)
  case atStart => exact ⟨0, eb.length, rfl, rfl, Nat.zero_le _, aq _ _, HTOT.out⟩
  case round =>
   clear q0 q1 q2 hbits;obtain ⟨k, m, rfl, rfl, hk, hbe, hans⟩ := hrel
   by_cases hkl : k < es.length
   ·obtain ⟨e, he⟩ : ∃ e, es[k]? = some e := ⟨es[k], aM hkl⟩
    obtain ⟨a', cap', e', _, hsrc⟩ := H2.out.below hbe;cases e';obtain ⟨g, o, ha, _, hcells⟩ := hsrc (by intro h0; rw [h0] at hkl; simp at hkl);subst ha;obtain ⟨p0, p1, p2, p3, u, p4, hu⟩ := (cE.get es g o k e hcells he).cells;obtain ⟨au, cu, hfu⟩ := hu.shape;subst hfu;have hdep : ex e ≤ n := by have h1 := eK es k e he; have := HDE.out; omega
    rw [gv he] at hans;simp only [bR] at hans;have i1 : (k : Int) < (es.length : Int) := by omega
    have i3 : decide ((k : Int) < (es.length : Int)) = true := aA i1;have m1 := alb wr (Er e au cu) 45;have kr := jK N HN.out n e hdep (eV es k e HS.out he) (by have := HSZ.out k e he; omega) _ _ ((hu.mono (fun _ _ _ => trivial)).below m1);have hsz := hbe.size;have hsm := m1.size;have HB4 := hid (hbe.trans (m1.mono hbe.size));have hse := fV e;obtain ⟨z, hzz⟩ : ∃ z, bK e = z := ⟨_, rfl⟩;rw [hzz] at kr hans hse;have hm9 : m + z ≤ 65536 := by omega
    have HANS := hid hans;have hw1 : IntKind.i64.wrap ((m : Int) + (z : Int)) = (m : Int) + (z : Int) := by rw [aK]; omega
    clear hsrc hcells he hu m1 hzz hans q3 q4;unfold elA at kr
    go_wp2_with (refine bg rfl 45 (.tmp 7) rfl wr.heap.size 45 _ (0, 0) (by rfl) (bi _ _ _ rfl) _ Tryz.underlying45 rfl (by rfl) ?_)
    refine ag kr ?_;rintro e5 w5 ⟨rfl, hb5⟩;have HB5 := hid (HB4.out.trans (hb5.mono (by omega)));clear hb5 kr
    go_wp2_with fail
    exact ⟨⟨k + 1, m + z, by go_num, by go_num, by omega, HB5.out, by have := HANS.out; omega⟩, by simp [RowKit.intOf]; omega⟩
   ·obtain rfl : k = es.length := by omega
    rw [List.drop_of_length_le (ah _)] at hans;simp only [bR, Nat.add_zero] at hans;subst hans;have i3 : decide ((es.length : Int) < (es.length : Int)) = false := an (by omega);have s3 := (hbe.cell (bj q3)).trans q3;have s4 := (hbe.cell (bj q4)).trans q4;have HR3 := hid ((hbe.block _ (gl HR2.out)).trans HR2.out);have hs1 := b1.size;have hs2 := hbe.size;have HW3 := HW2.out.below hbe;have H3 := hid (H2.out.below hbe);have b3 : Below B w wr := (b1.mono hBw).trans (hbe.mono (by omega));have kb := jE B b l (UInt8.ofNat FB) wr HW3 (by omega) (by omega);rw [hFu] at kb;clear q3 q4 HW3 H2 HW2 HR2
    go_wp2_with fail
    refine ag kb ?_;rintro e6 w6 ⟨rfl, hW6, hb6, hkw6⟩;have HR6 := hkw6.2 _ _ _ _ HR3.out (by omega) (by decide);have kl := klen'.out w6;have H6 := hid (H3.out.kept fun g hg _ => ⟨hb6.block g hg, hg⟩);have b6 := b3.trans hb6;have hs6 := hb6.size;clear kb s3 s4 HR3 H3 b3 hb6 hkw6
    go_wp2_with fail
    refine ag kl ?_;rintro e7 w7 ⟨rfl, hb7⟩;have hW7 := hW6.below hb7;have HR7 := (hb7.block _ (gl HR6)).trans HR6;have H7 := hid (H6.out.below hb7);have hs7 := hb7.size;have b7 := b6.trans (hb7.mono (by omega));have kw := fk B b (l ++ [UInt8.ofNat FB]) L w7 hW7 (by simp; omega) (by omega) (by omega);clear kl hW6 HR6 H6 hb7 b6 hW7
    go_wp2_with fail
    refine ag kw ?_;rintro e8 w8 ⟨rfl, hW8, hb8, hkw8⟩;have HR8 := hkw8.2 _ _ _ _ HR7 (by omega) (by decide);have H8 := hid (H7.out.kept fun g hg _ => ⟨hb8.block g hg, hg⟩);have hs8 := hb8.size;have b8 := b7.trans hb8;have s3 : w8.cell? ⟨w.heap.size, 3, none⟩ = some (.string ⟨eb.toArray⟩) := (ad HR8 3).trans rfl;have kw2 := fk B b (l ++ [UInt8.ofNat FB] ++ L) eb w8 hW8 (by simp; omega) (by omega) (by omega);clear kw HR7 H7 hb8 hkw8 b7 hW8
    go_wp2_with fail
    refine ag kw2 ?_;rintro e9 w9 ⟨rfl, hW9, hb9, hkw9⟩;have HR9 := hkw9.2 _ _ _ _ HR8 (by omega) (by decide);have H9 := hid (H8.out.kept fun g hg _ => ⟨hb9.block g hg, hg⟩);have hs9 := hb9.size;have b9 := b8.trans hb9;have s4 : w9.cell? ⟨w.heap.size, 4, none⟩ = some (.slice a es.length c) := (ad HR9 4).trans rfl;have HW9 := hid hW9;clear kw2 s3 HR8 H8 hb9 hkw9 b8 hW9 HR9
    go_wp2_with fail
    go_loopw [50] (fun i wr => ∃ k : Nat, i = .int .i64 (k : Int) ∧ k ≤ es.length ∧ IsW B b ((l ++ [UInt8.ofNat FB] ++ L ++ eb) ++ dq (es.take k)) wr ∧ Below B w9 wr) (fun i _ => es.length - (RowKit.intOf i).toNat)
    case atStart => exact ⟨0, rfl, Nat.zero_le _, by simpa [dq] using HW9.out, aq _ _⟩
    case round =>
     clear s4;obtain ⟨k, rfl, hk2, hWk, hbk⟩ := hrel;have hsk := hbk.size
     by_cases hkl : k < es.length
     ·obtain ⟨e, he⟩ : ∃ e, es[k]? = some e := ⟨es[k], aM hkl⟩
      obtain ⟨a', cap', e', _, hsrc⟩ := H9.out.kept (Q := fun g => g < B) fun g hg _ => ⟨hbk.block g hg, hg⟩
      cases e';obtain ⟨g, o, ha, _, hcells⟩ := hsrc (by intro h0; rw [h0] at hkl; simp at hkl);subst ha;obtain ⟨p0, p1, p2, p3, u, p4, hu⟩ := (cE.get es g o k e hcells he).cells;obtain ⟨au, cu, hfu⟩ := hu.shape;subst hfu;have hdep : ex e ≤ n := by have h1 := eK es k e he; have := HDE.out; omega
      have i1 : (k : Int) < (es.length : Int) := by omega
      have i3 : decide ((k : Int) < (es.length : Int)) = true := aA i1;have m1 := alb wr (Er e au cu) 45;have hze := HSZ.out k e he;have hts := ll he;have hsum2 : bR (es.take k) + bK e ≤ bR es := by have := jf es (k + 1); rw [hts, jg] at this; exact this
      have hpl := iJ (es.take k) (fun j x hj => by
       have h1 : es[j]? = some x := by
        have hjl := (List.getElem?_eq_some_iff.1 hj).1;rw [List.length_take] at hjl;rw [List.getElem?_take_of_lt (by omega)] at hj;exact hj
       have := HSZ.out j x h1; omega)
      have hT := HTOT.out;have kr := IH.out e hdep (eV es k e HS.out he) (by omega) (by omega) (jP es k e HT.out he) B b ((l ++ [UInt8.ofNat FB] ++ L ++ eb) ++ dq (es.take k)) _ _ (hWk.below m1) (hu.below m1) (by have := m1.size; omega) (by simp [hpl]; omega);have hsm := m1.size;have HB4 := hid (hbk.trans (m1.mono (by omega)));have HTS := hid hts;clear hsrc hcells he hu m1 hpl hsum2 hT hts hze hWk;unfold elA at kr
      go_wp2_with (refine bg rfl 45 (.tmp 9) rfl wr.heap.size 45 _ (0, 0) (by rfl) (bi _ _ _ rfl) _ Tryz.underlying45 rfl (by rfl) ?_)
      refine ag kr ?_;rintro e5 w5 ⟨rfl, hW5, hb5⟩;have HB5 := hid (HB4.out.trans hb5);have HW5 := hid hW5;clear hb5 kr hW5
      go_wp2_with fail
      exact ⟨⟨k + 1, by go_num, by omega, by rw [HTS.out, jh, ← List.append_assoc]; exact HW5.out, HB5.out⟩, by simp [RowKit.intOf]; omega⟩
     ·obtain rfl : k = es.length := by omega
      rw [List.take_of_length_le (ah _)] at hWk;have i3 : decide ((es.length : Int) < (es.length : Int)) = false := an (by omega);have HWk := hid hWk;clear hWk
      go_wp2_with fail
      go_end0
      exact ⟨rfl, by rw [HP.out]; simpa [List.append_assoc] using HWk.out, b9.trans hbk⟩
 ·rw [hfb1 rfl] at hbit2
  clear hfb0 hfb1;have b1 := alb w #[.int .i64 (C : Int), .int .i64 (Tg : Int), .bool true, .string ⟨eb.toArray⟩, .slice a es.length c] 45;have r1 := alz w #[.int .i64 (C : Int), .int .i64 (Tg : Int), .bool true, .string ⟨eb.toArray⟩, .slice a es.length c] 45
  go_enter Tryz.func70, Tryz.ntmps70
  refine wp_seq ?_;refine aQ ?_;refine aB rfl fun K hK => ?_; go_simp; refine hK _ _ ?_; clear hK K
  generalize w.alloc (.cells #[.int .i64 (C : Int), .int .i64 (Tg : Int), .bool true, .string ⟨eb.toArray⟩, .slice a es.length c] 45) = w2 at b1 r1 ⊢;have q0 : w2.cell? ⟨w.heap.size, 0, none⟩ = some (.int .i64 C) := (ad r1 0).trans rfl;have q1 : w2.cell? ⟨w.heap.size, 1, none⟩ = some (.int .i64 Tg) := (ad r1 1).trans rfl;have q2 : w2.cell? ⟨w.heap.size, 2, none⟩ = some (.bool true) := (ad r1 2).trans rfl;have q3 : w2.cell? ⟨w.heap.size, 3, none⟩ = some (.string ⟨eb.toArray⟩) := (ad r1 3).trans rfl;have q4 : w2.cell? ⟨w.heap.size, 4, none⟩ = some (.slice a es.length c) := (ad r1 4).trans rfl;have H2 := hid (H.out.below b1);have HW2 := hid (HW.out.below b1);have HR2 := hid r1;have hwl : b < w.heap.size := by
   rcases HW.out with h | h
   ·obtain ⟨_, _, h, _⟩ := h; exact (gl h)
   ·obtain ⟨_, _, h, _⟩ := h; exact (gl h)
  clear r1 H HW
  go_wp2_with fail
  go_loopw [5, 26] (fun v i wr => ∃ k m : Nat, i = .int .i64 (k : Int) ∧ v = .int .i64 (m : Int) ∧ k ≤ es.length ∧ Below w2.heap.size w2 wr ∧ m + bR (es.drop k) = TOT) (fun _ i _ => es.length - (RowKit.intOf i).toNat)
  case atStart => exact ⟨0, eb.length, rfl, rfl, Nat.zero_le _, aq _ _, HTOT.out⟩
  case round =>
   clear q0 q1 q2 hbits hbit2;obtain ⟨k, m, rfl, rfl, hk, hbe, hans⟩ := hrel
   by_cases hkl : k < es.length
   ·obtain ⟨e, he⟩ : ∃ e, es[k]? = some e := ⟨es[k], aM hkl⟩
    obtain ⟨a', cap', e', _, hsrc⟩ := H2.out.below hbe;cases e';obtain ⟨g, o, ha, _, hcells⟩ := hsrc (by intro h0; rw [h0] at hkl; simp at hkl);subst ha;obtain ⟨p0, p1, p2, p3, u, p4, hu⟩ := (cE.get es g o k e hcells he).cells;obtain ⟨au, cu, hfu⟩ := hu.shape;subst hfu;have hdep : ex e ≤ n := by have h1 := eK es k e he; have := HDE.out; omega
    rw [gv he] at hans;simp only [bR] at hans;have i1 : (k : Int) < (es.length : Int) := by omega
    have i3 : decide ((k : Int) < (es.length : Int)) = true := aA i1;have m1 := alb wr (Er e au cu) 45;have kr := jK N HN.out n e hdep (eV es k e HS.out he) (by have := HSZ.out k e he; omega) _ _ ((hu.mono (fun _ _ _ => trivial)).below m1);have hsz := hbe.size;have hsm := m1.size;have HB4 := hid (hbe.trans (m1.mono hbe.size));have hse := fV e;obtain ⟨z, hzz⟩ : ∃ z, bK e = z := ⟨_, rfl⟩;rw [hzz] at kr hans hse;have hm9 : m + z ≤ 65536 := by omega
    have HANS := hid hans;have hw1 : IntKind.i64.wrap ((m : Int) + (z : Int)) = (m : Int) + (z : Int) := by rw [aK]; omega
    clear hsrc hcells he hu m1 hzz hans q3 q4;unfold elA at kr
    go_wp2_with (refine bg rfl 45 (.tmp 7) rfl wr.heap.size 45 _ (0, 0) (by rfl) (bi _ _ _ rfl) _ Tryz.underlying45 rfl (by rfl) ?_)
    refine ag kr ?_;rintro e5 w5 ⟨rfl, hb5⟩;have HB5 := hid (HB4.out.trans (hb5.mono (by omega)));clear hb5 kr
    go_wp2_with fail
    exact ⟨⟨k + 1, m + z, by go_num, by go_num, by omega, HB5.out, by have := HANS.out; omega⟩, by simp [RowKit.intOf]; omega⟩
   ·obtain rfl : k = es.length := by omega
    rw [List.drop_of_length_le (ah _)] at hans;simp only [bR, Nat.add_zero] at hans;subst hans;have i3 : decide ((es.length : Int) < (es.length : Int)) = false := an (by omega);have s3 := (hbe.cell (bj q3)).trans q3;have s4 := (hbe.cell (bj q4)).trans q4;have HR3 := hid ((hbe.block _ (gl HR2.out)).trans HR2.out);have hs1 := b1.size;have hs2 := hbe.size;have HW3 := HW2.out.below hbe;have H3 := hid (H2.out.below hbe);have b3 : Below B w wr := (b1.mono hBw).trans (hbe.mono (by omega));have kb := jE B b l (UInt8.ofNat FB) wr HW3 (by omega) (by omega);rw [hFu] at kb;clear q3 q4 HW3 H2 HW2 HR2
    go_wp2_with fail
    refine ag kb ?_;rintro e6 w6 ⟨rfl, hW6, hb6, hkw6⟩;have HR6 := hkw6.2 _ _ _ _ HR3.out (by omega) (by decide);have kl := klen'.out w6;have H6 := hid (H3.out.kept fun g hg _ => ⟨hb6.block g hg, hg⟩);have b6 := b3.trans hb6;have hs6 := hb6.size;clear kb s3 s4 HR3 H3 b3 hb6 hkw6
    go_wp2_with fail
    refine ag kl ?_;rintro e7 w7 ⟨rfl, hb7⟩;have hW7 := hW6.below hb7;have HR7 := (hb7.block _ (gl HR6)).trans HR6;have H7 := hid (H6.out.below hb7);have hs7 := hb7.size;have b7 := b6.trans (hb7.mono (by omega));have kw := fk B b (l ++ [UInt8.ofNat FB]) L w7 hW7 (by simp; omega) (by omega) (by omega);clear kl hW6 HR6 H6 hb7 b6 hW7
    go_wp2_with fail
    refine ag kw ?_;rintro e8 w8 ⟨rfl, hW8, hb8, hkw8⟩;have HR8 := hkw8.2 _ _ _ _ HR7 (by omega) (by decide);have H8 := hid (H7.out.kept fun g hg _ => ⟨hb8.block g hg, hg⟩);have hs8 := hb8.size;have b8 := b7.trans hb8;have s3 : w8.cell? ⟨w.heap.size, 3, none⟩ = some (.string ⟨eb.toArray⟩) := (ad HR8 3).trans rfl;have kw2 := fk B b (l ++ [UInt8.ofNat FB] ++ L) eb w8 hW8 (by simp; omega) (by omega) (by omega);clear kw HR7 H7 hb8 hkw8 b7 hW8
    go_wp2_with fail
    refine ag kw2 ?_;rintro e9 w9 ⟨rfl, hW9, hb9, hkw9⟩;have HR9 := hkw9.2 _ _ _ _ HR8 (by omega) (by decide);have H9 := hid (H8.out.kept fun g hg _ => ⟨hb9.block g hg, hg⟩);have hs9 := hb9.size;have b9 := b8.trans hb9;have s4 : w9.cell? ⟨w.heap.size, 4, none⟩ = some (.slice a es.length c) := (ad HR9 4).trans rfl;have HW9 := hid hW9;clear kw2 s3 HR8 H8 hb9 hkw9 b8 hW9 HR9
    go_wp2_with fail
    go_loopw [50] (fun i wr => ∃ k : Nat, i = .int .i64 (k : Int) ∧ k ≤ es.length ∧ IsW B b ((l ++ [UInt8.ofNat FB] ++ L ++ eb) ++ dq (es.take k)) wr ∧ Below B w9 wr) (fun i _ => es.length - (RowKit.intOf i).toNat)
    case atStart => exact ⟨0, rfl, Nat.zero_le _, by simpa [dq] using HW9.out, aq _ _⟩
    case round =>
     clear s4;obtain ⟨k, rfl, hk2, hWk, hbk⟩ := hrel;have hsk := hbk.size
     by_cases hkl : k < es.length
     ·obtain ⟨e, he⟩ : ∃ e, es[k]? = some e := ⟨es[k], aM hkl⟩
      obtain ⟨a', cap', e', _, hsrc⟩ := H9.out.kept (Q := fun g => g < B) fun g hg _ => ⟨hbk.block g hg, hg⟩
      cases e';obtain ⟨g, o, ha, _, hcells⟩ := hsrc (by intro h0; rw [h0] at hkl; simp at hkl);subst ha;obtain ⟨p0, p1, p2, p3, u, p4, hu⟩ := (cE.get es g o k e hcells he).cells;obtain ⟨au, cu, hfu⟩ := hu.shape;subst hfu;have hdep : ex e ≤ n := by have h1 := eK es k e he; have := HDE.out; omega
      have i1 : (k : Int) < (es.length : Int) := by omega
      have i3 : decide ((k : Int) < (es.length : Int)) = true := aA i1;have m1 := alb wr (Er e au cu) 45;have hze := HSZ.out k e he;have hts := ll he;have hsum2 : bR (es.take k) + bK e ≤ bR es := by have := jf es (k + 1); rw [hts, jg] at this; exact this
      have hpl := iJ (es.take k) (fun j x hj => by
       have h1 : es[j]? = some x := by
        have hjl := (List.getElem?_eq_some_iff.1 hj).1;rw [List.length_take] at hjl;rw [List.getElem?_take_of_lt (by omega)] at hj;exact hj
       have := HSZ.out j x h1; omega)
      have hT := HTOT.out;have kr := IH.out e hdep (eV es k e HS.out he) (by omega) (by omega) (jP es k e HT.out he) B b ((l ++ [UInt8.ofNat FB] ++ L ++ eb) ++ dq (es.take k)) _ _ (hWk.below m1) (hu.below m1) (by have := m1.size; omega) (by simp [hpl]; omega);have hsm := m1.size;have HB4 := hid (hbk.trans (m1.mono (by omega)));have HTS := hid hts;clear hsrc hcells he hu m1 hpl hsum2 hT hts hze hWk;unfold elA at kr
      go_wp2_with (refine bg rfl 45 (.tmp 9) rfl wr.heap.size 45 _ (0, 0) (by rfl) (bi _ _ _ rfl) _ Tryz.underlying45 rfl (by rfl) ?_)
      refine ag kr ?_;rintro e5 w5 ⟨rfl, hW5, hb5⟩;have HB5 := hid (HB4.out.trans hb5);have HW5 := hid hW5;clear hb5 kr hW5
      go_wp2_with fail
      exact ⟨⟨k + 1, by go_num, by omega, by rw [HTS.out, jh, ← List.append_assoc]; exact HW5.out, HB5.out⟩, by simp [RowKit.intOf]; omega⟩
     ·obtain rfl : k = es.length := by omega
      rw [List.take_of_length_le (ah _)] at hWk;have i3 : decide ((es.length : Int) < (es.length : Int)) = false := an (by omega);have HWk := hid hWk;clear hWk
      go_wp2_with fail
      go_end0
      exact ⟨rfl, by rw [HP.out]; simpa [List.append_assoc] using HWk.out, b9.trans hbk⟩
theorem sZ (e : El) : eJ e ≠ [] := by
 rw [ou]; simp
theorem pf (N : Nat) (hN : jw N) (el : El) (hs : SmE el) (hz : bK el ≤ N) (u : Value) (w : World) (h : bf (fun _ => True) w u el.kids) :
  Cr 30 #[.agg (elA el u)] w (.tuple #[.string ⟨(dD el).1.toArray⟩, .int .i64 (dD el).2]) := by
 obtain ⟨s, n, hsn⟩ : ∃ s n, dD el = (s, n) := ⟨_, _, rfl⟩;rw [hsn];simp only;have HSN := hid hsn;have HS := hid hs;obtain ⟨a, c, hf⟩ := h.shape;subst hf;have b1 := alb w (Er el a c) 45;have r1 := alz w (Er el a c) 45;have H1 := hid (h.below b1);clear h hsn hs;unfold elA
 go_enter Tryz.func30, Tryz.ntmps30
 refine wp_seq ?_;refine aQ ?_;refine aB rfl fun K hK => ?_; go_simp; refine hK _ _ ?_; clear hK K
 generalize w.alloc (.cells (Er el a c) 45) = w1 at b1 r1 H1 ⊢;have k1 := nc (ex el) el (ah _) HS.out 0 (by omega) _ w1 H1.out;unfold elA at k1
 go_wp2_with (refine bg rfl 45 (.tmp 1) rfl w.heap.size 45 _ (0, 0) (by rfl) r1 _ Tryz.underlying45 rfl (by rfl) ?_)
 refine ag k1 ?_;rintro e2 w2 ⟨rfl, hb2⟩;have r2 := (hb2.block _ (gl r1)).trans r1;have b2 := b1.trans (hb2.mono b1.size);have H2 := hid (H1.out.below hb2);clear k1 b1 r1 H1 hb2;obtain ⟨B1, h1⟩ : ∃ B, dM cn 0 el = B := ⟨_, rfl⟩;rw [h1];cases B1 with
 | false =>
  have hr := HSN.out;simp only [dD, h1, if_true] at hr;cases hr;clear h1
  go_wp2_with fail
  go_ret2
  exact ⟨rfl, b2⟩
 | true =>
  have k2 := me (ex el) el (ah _) HS.out 0 (by omega) _ w2 H2.out;unfold elA at k2;have HH1 := hid h1;clear h1
  go_wp2_with (refine bg rfl 45 (.tmp 1) rfl w.heap.size 45 _ (0, 0) (by rfl) r2 _ Tryz.underlying45 rfl (by rfl) ?_)
  refine ag k2 ?_;rintro e3 w3 ⟨rfl, hb3⟩;have r3 := (hb3.block _ (gl r2)).trans r2;have b3 := b2.trans (hb3.mono b2.size);have H3 := hid (H2.out.below hb3);clear k2 b2 r2 H2 hb3;obtain ⟨B2, h2⟩ : ∃ B, dM cB 0 el = B := ⟨_, rfl⟩;rw [h2];cases B2 with
  | false =>
   have hr := HSN.out;simp only [dD, HH1.out, h2, if_true] at hr;rw [if_neg (by simp)] at hr;cases hr;clear h2
   go_wp2_with fail
   go_ret2
   exact ⟨rfl, b3⟩
  | true =>
   have k3 := rp (ex el) el (ah _) HS.out 0 (by omega) _ w3 H3.out;unfold elA at k3;have HH2 := hid h2;clear h2
   go_wp2_with (refine bg rfl 45 (.tmp 1) rfl w.heap.size 45 _ (0, 0) (by rfl) r3 _ Tryz.underlying45 rfl (by rfl) ?_)
   refine ag k3 ?_;rintro e4 w4 ⟨rfl, hb4⟩;have r4 := (hb4.block _ (gl r3)).trans r3;have b4 := b3.trans (hb4.mono b3.size);have H4 := hid (H3.out.below hb4);clear k3 b3 r3 H3 hb4;obtain ⟨B3, h3⟩ : ∃ B, eW 0 el = B := ⟨_, rfl⟩;rw [h3];cases B3 with
   | true =>
    have hr := HSN.out;simp only [dD, HH1.out, HH2.out, h3, if_true] at hr;rw [if_neg (by simp), if_neg (by simp)] at hr;cases hr;clear h3
    go_wp2_with fail
    go_ret2
    exact ⟨rfl, b4⟩
   | false =>
    have k4 := jK N hN (ex el) el (ah _) HS.out hz _ w4 H4.out;unfold elA at k4;have HH3 := hid h3;clear h3
    go_wp2_with (refine bg rfl 45 (.tmp 1) rfl w.heap.size 45 _ (0, 0) (by rfl) r4 _ Tryz.underlying45 rfl (by rfl) ?_)
    refine ag k4 ?_;rintro e5 w5 ⟨rfl, hb5⟩;have r5 := (hb5.block _ (gl r4)).trans r4;have b5 := b4.trans (hb5.mono b4.size);have H5 := hid (H4.out.below hb5);clear k4 b4 r4 H4 hb5
    by_cases h6 : 65536 < bK el
    ·have hr := HSN.out
     simp only [dD, HH1.out, HH2.out, HH3.out, h6, if_true] at hr;rw [if_neg (by simp), if_neg (by simp), if_neg (by simp)] at hr;cases hr;have g6 : decide ((65536 : Int) < (bK el : Int)) = true := aA (by omega)
     go_wp2_with fail
     go_ret2
     exact ⟨rfl, b5⟩
    ·have hr := HSN.out
     simp only [dD, HH1.out, HH2.out, HH3.out, h6, if_false] at hr;rw [if_neg (by simp), if_neg (by simp), if_neg (by simp)] at hr;cases hr;have g6 : decide ((65536 : Int) < (bK el : Int)) = false := an (by omega);have m5 := alb w5 #[.pointer none, Sn] 101;have hW : IsW w5.heap.size w5.heap.size [] (w5.alloc (.cells #[.pointer none, Sn] 101)) := Lib.fresh_isBuilder _ _ _;have r6 := (m5.block _ (gl r5)).trans r5;have kp := sY N hN (ex el) el (ah _) HS.out hz (by omega) (qB cn 0 el HH1.out HH3.out) w5.heap.size w5.heap.size [] _ _ hW (H5.out.kept fun g _ hg => ⟨m5.block g hg, hg⟩) (by simp) (by simp; omega);unfold elA at kp;have b6 := b5.trans (m5.mono b5.size);have hs5 := b5.size;clear hW m5 r5 H5
     go_wp2_with (refine bg rfl 45 (.tmp 1) rfl w.heap.size 45 _ (0, 0) (by rfl) r6 _ Tryz.underlying45 rfl (by rfl) ?_)
     refine ag kp ?_;rintro e7 w7 ⟨rfl, hW7, hb7⟩;have ks := rs w5.heap.size w5.heap.size _ w7 hW7 (by simpa using sZ el);have b7 := b6.trans (hb7.mono (by omega));clear kp hW7 hb7 b6 r6
     go_wp2_with fail
     refine ag ks ?_;rintro e8 w8 ⟨rfl, hb8⟩;have b8 := b7.trans (hb8.mono (by omega));clear ks hb8
     go_wp2_with fail
     go_ret2
     exact ⟨by simp, b8⟩
theorem gZ (v : Nat) (hv : v ≤ 127) (w : World) :
  Cr 113 #[.int .i64 (v : Int)] w (.string ⟨#[UInt8.ofNat v]⟩) := by
 obtain ⟨i0, hi0, hz0, hz1, hz2⟩ := info_parts Tryz.infoByte;have hnb : (UInt8.ofNat v).toNat = v := by simp [UInt8.toNat_ofNat']; omega
 have HNB := hid hnb;clear hnb
 go_enter Tryz.func113, Tryz.ntmps113
 go_wp2_with fail
 go_loopw [3] (fun n wr => n = .int .i64 1 ∧ wr = w) (fun _ _ => 0)
 case atStart => exact ⟨rfl, rfl⟩
 case round =>
  obtain ⟨rfl, hwr⟩ := hrel;have hwr' := hwr.symm;subst hwr';clear hwr
  go_wp2_with (refine wpList_make_full _ rfl (.tmp 23) (.tmp 23) 39 rfl w.heap.size 5 i0 (.int .u8 0) 1 Tryz.underlying39 hi0 hz0 hz1 .i64 .i64 1 1 1 rfl rfl rfl rfl (by rw [hz2]; omega) (by unfold maxLen; omega) (ah _) ?_; intro w2 ho2 hg2)
  have hmc : (madeCells (Value.int .u8 0).cells (1 * 1)).toList = [.int .u8 0] := by simp [madeCells, Value.cells]
  rw [hmc] at ho2;clear hmc;have hb2 : Below w.heap.size w w2 := (aq w.heap.size w).grown hg2 (ah _) (fun b hb => by cases hb);obtain ⟨c0, z0⟩ := cJ (i := 0) (x := .int .u8 0) ho2 rfl;have hset := dH (i := 0) (x := .int .u8 (v : Int)) ho2 (by decide);have HO := hid hset;clear ho2 hg2 hset
  go_loopw [5, 27] (fun _ c wx => (c = .int .i64 0 ∧ wx = w2) ∨ (c = .int .i64 1 ∧ wx = w2.setCell ⟨w.heap.size, 0, none⟩ (.int .u8 (v : Int)))) (fun _ c _ => 1 - (RowKit.intOf c).toNat)
  case atStart => exact .inl ⟨rfl, rfl⟩
  case round =>
   rcases hrel with ⟨rfl, hwr⟩ | ⟨rfl, hwr⟩
   ·have hwr' := hwr.symm
    subst hwr';clear hwr;have hw1 : (v : Int) % 18446744073709551616 = (v : Int) := by omega
    have hw2 : (v : Int) % 256 = (v : Int) := by omega
    go_wp2_with fail
    exact ⟨by simp, by simp [RowKit.intOf]⟩
   ·have hwr' := hwr.symm
    have hcv := eI (P := Tryz.prog) _ 39 9 5 w.heap.size _ [UInt8.ofNat v] Tryz.underlying39 Tryz.underlying5 Tryz.underlying9 (by rw [show bV [UInt8.ofNat v] = [.int .u8 (v : Int)] by simp [bV, HNB.out]]; exact HO.out);rw [← hwr'] at *
    go_wp2_with fail
    go_ret
    exact ⟨rfl, hb2.setCell (p := ⟨w.heap.size, 0, none⟩) (ah _) _⟩
theorem ln (t : Int) (v : Nat) (hv : v ≤ 127) (w : World) :
  Cr 72 #[.int .i64 t, .int .i64 (v : Int)] w (.agg (elA (.mk 0 t false [UInt8.ofNat v] []) (.slice none 0 0))) := by
 have hb := alb w Ze 45;have hr := alz w Ze 45;have k := gZ v hv (w.alloc (.cells Ze 45))
 go_enter Tryz.func72, Tryz.ntmps72
 go_wp2_with fail
 refine ag k ?_;rintro e w1 ⟨rfl, hb1⟩;have hr1 := (hb1.block _ (gl hr)).trans hr;have hbb := hb.trans (hb1.mono hb.size);have k2 := im t [UInt8.ofNat v] w1;clear k hr hb hb1
 go_wp2_with fail
 refine ag k2 ?_;rintro e w2 ⟨rfl, hb2⟩;have hr2 := (hb2.block _ (gl hr1)).trans hr1;have hb3 := hbb.trans (hb2.mono hbb.size);clear hr1 hb2 hbb k2;have hq := setRow_heap w2 w.heap.size _ #[I0, .int .i64 t, Bf, .string ⟨#[UInt8.ofNat v]⟩, .slice none 0 0] _ _ hr2;have hb4 := bm hb3 (g := w.heap.size) (ah _) #[I0, .int .i64 t, Bf, .string ⟨#[UInt8.ofNat v]⟩, .slice none 0 0]
 go_wp2_with (refine bh rfl 45 (.tmp 4) (.tmp 8) rfl w.heap.size 45 _ #[I0, .int .i64 t, Bf, .string ⟨#[UInt8.ofNat v]⟩, .slice none 0 0] (by rfl) (by rfl) hr2 (by rfl) (by rfl) (by simp [Value.oneCell']) ?_)
 all_goals refine aH (v := .agg #[I0, .int .i64 t, Bf, .string ⟨#[UInt8.ofNat v]⟩, .slice none 0 0]) ?_ rfl ⟨rfl, hb4⟩
 all_goals have hr := aJ (P := Tryz.prog) (w2.setRow w.heap.size #[I0, .int .i64 t, Bf, .string ⟨#[UInt8.ofNat v]⟩, .slice none 0 0]) (w.heap.size) 45 45 #[I0, .int .i64 t, Bf, .string ⟨#[UInt8.ofNat v]⟩, .slice none 0 0] (0, 0) _ hq (show Tryz.prog.underlying 45 = _ from Tryz.underlying45) (by rfl) (by rfl)
 all_goals simp [results, Tryz.f72]
 all_goals exact hr
def isE (el : El) (c t : Int) (k : Bool) : Bool := decide (el.cls = c) && decide (el.tag = t) && (el.cons == k)
theorem kz (el : El) (u : Value) (cl t : Int) (k : Bool) (w : World) (h : bf (fun _ => True) w u el.kids) :
  Cr 58 #[.agg (elA el u), .int .i64 cl, .int .i64 t, .bool k] w (.bool (isE el cl t k)) := by
 obtain ⟨a, c, hf⟩ := h.shape;subst hf;clear h;have hb := alb w #[.int .i64 el.cls, .int .i64 el.tag, .bool el.cons, .string ⟨el.bytes.toArray⟩, .slice a el.kids.length c] 45;unfold elA
 by_cases h1 : el.cls = cl
 ·by_cases h2 : el.tag = t
  ·obtain ⟨b, h3⟩ : ∃ b, el.cons = b := ⟨_, rfl⟩
   have hr : isE el cl t k = (b == k) := by simp [isE, h1, h2, h3]
   rw [hr];rw [h1, h2, h3] at hb;rw [h1, h2, h3];clear hr h1 h2 h3
   go_enter Tryz.func58, Tryz.ntmps58
   go_wp2_with fail
   go_ret
   exact ⟨rfl, hb⟩
  ·have hr : isE el cl t k = false := by simp [isE, h2]
   have g2 : (el.tag == t) = false := by simpa using h2
   rw [hr];rw [h1] at hb;rw [h1];clear hr h1 h2
   go_enter Tryz.func58, Tryz.ntmps58
   go_wp2_with fail
   go_ret
   exact ⟨rfl, hb⟩
 ·have hr : isE el cl t k = false := by simp [isE, h1]
  have g1 : (el.cls == cl) = false := by simpa using h1
  rw [hr];clear hr h1
  go_enter Tryz.func58, Tryz.ntmps58
  go_wp2_with fail
  go_ret
  exact ⟨rfl, hb⟩
theorem pg (el : El) (u : Value) (cl t : Int) (w : World) (h : bf (fun _ => True) w u el.kids) :
  Cr 166 #[.agg (elA el u), .int .i64 cl, .int .i64 t] w (if isE el cl t false then .tuple #[.string ⟨el.bytes.toArray⟩, I0] else .tuple #[Es, .int .i64 24]) := by
 obtain ⟨a, c, hf⟩ := h.shape;subst hf;have b1 := alb w (Er el a c) 45;have r1 := alz w (Er el a c) 45;have k := kz el _ cl t false _ (h.below b1);obtain ⟨R, hR⟩ : ∃ R, isE el cl t false = R := ⟨_, rfl⟩;rw [hR] at k ⊢;unfold elA at k ⊢;clear h hR;cases R
 all_goals
  simp only [if_true, aW, if_false]
  go_enter Tryz.func166, Tryz.ntmps166
  refine wp_seq ?_;refine aQ ?_;refine aB rfl fun K hK => ?_; go_simp; refine hK _ _ ?_; clear hK K
  generalize w.alloc (.cells (Er el a c) 45) = w1 at b1 r1 k ⊢
  go_wp2_with (refine bg rfl 45 (.tmp 3) rfl w.heap.size 45 _ (0, 0) (by rfl) r1 _ Tryz.underlying45 rfl (by rfl) ?_)
  refine ag k ?_;rintro e w2 ⟨rfl, hb2⟩;have r2 := (hb2.block _ (gl r1)).trans r1;have q3 : w2.cell? ⟨w.heap.size, 3, none⟩ = some (.string ⟨el.bytes.toArray⟩) := (ad r2 3).trans rfl;have b2 := b1.trans (hb2.mono b1.size);clear k r1 r2 hb2 b1
  go_wp2_with fail
  go_ret2
  exact ⟨rfl, b2⟩
theorem nH (el : El) (u : Value) (cl t : Int) (w : World) (h : bf (fun _ => True) w u el.kids) (hs : SmE el) :
  Calls Tryz.prog 135 #[.agg (elA el u), .int .i64 cl, .int .i64 t] w fun e w' => (∃ v, e = .returned (.tuple #[v, .int .i64 (if isE el cl t true then 0 else 24)]) ∧ bf (fun g => w.heap.size ≤ g) w' v (if isE el cl t true then el.kids else [])) ∧ Below w.heap.size w w' := by
 obtain ⟨_, sl, sk⟩ := dV hs;obtain ⟨a, c, hf⟩ := h.shape;subst hf;have b1 := alb w (Er el a c) 45;have r1 := alz w (Er el a c) 45;have k := kz el _ cl t true _ (h.below b1);have H1 := hid (h.below b1);have SK := hid sk;obtain ⟨R, hR⟩ : ∃ R, isE el cl t true = R := ⟨_, rfl⟩;rw [hR] at k ⊢;unfold elA at k ⊢;clear h hR sk hs;cases R
 all_goals
  simp only [if_true, aW, if_false]
  go_enter Tryz.func135, Tryz.ntmps135
  refine wp_seq ?_;refine aQ ?_;refine aB rfl fun K hK => ?_; go_simp; refine hK _ _ ?_; clear hK K
  generalize w.alloc (.cells (Er el a c) 45) = w1 at b1 r1 k H1 ⊢
  go_wp2_with (refine bg rfl 45 (.tmp 3) rfl w.heap.size 45 _ (0, 0) (by rfl) r1 _ Tryz.underlying45 rfl (by rfl) ?_)
  refine ag k ?_;rintro e w2 ⟨rfl, hb2⟩;have r2 := (hb2.block _ (gl r1)).trans r1;have q4 : w2.cell? ⟨w.heap.size, 4, none⟩ = some (.slice a el.kids.length c) := (ad r2 4).trans rfl;have b2 := b1.trans (hb2.mono b1.size);have kc := iv (fT el.kids) el.kids (ah _) SK.out sl _ w2 (H1.out.below hb2);clear k r1 r2 hb2 b1 H1
 ·go_wp2_with fail
  go_ret2
  exact ⟨⟨_, rfl, bf.nil _ _⟩, b2⟩
 ·go_wp2_with fail
  refine ag kc ?_;rintro e w3 ⟨⟨v, rfl, hv⟩, hb3⟩;have b3 := b2.trans (hb3.mono b2.size);have hs2 := b2.size;have HV := hid (hv.mono (Q := fun g => w.heap.size ≤ g) (fun g hg _ => by omega));clear kc hv hb3
  go_wp2_with fail
  go_ret2
  exact ⟨⟨_, rfl, HV.out⟩, b3⟩
theorem gd (b : UInt8) : bits BinOp.and IntKind.u8 (b.toNat : Int) 31 = ((b.toNat % 32 : Nat) : Int) := by
 have : ∀ i : Fin 256, bits BinOp.and IntKind.u8 ((UInt8.ofNat i.val).toNat : Int) 31 = (((UInt8.ofNat i.val).toNat % 32 : Nat) : Int) := by decide +kernel
 have h := this ⟨b.toNat, UInt8.toNat_lt b⟩
 simpa using h
theorem sx (b : UInt8) : bits BinOp.and IntKind.u8 (b.toNat : Int) 32 = ((b.toNat / 32 % 2 * 32 : Nat) : Int) := by
 have : ∀ i : Fin 256, bits BinOp.and IntKind.u8 ((UInt8.ofNat i.val).toNat : Int) 32 = (((UInt8.ofNat i.val).toNat / 32 % 2 * 32 : Nat) : Int) := by decide +kernel
 have h := this ⟨b.toNat, UInt8.toNat_lt b⟩
 simpa using h
theorem ph (b0 b1 : UInt8) (r : List UInt8) (h0 : b0.toNat % 32 ≤ 30) (h1 : b1.toNat < 128) (w : World) :
  Calls Tryz.prog 54 #[.string ⟨(b0 :: b1 :: r).toArray⟩] w fun e w' => e = .returned (.tuple #[.int .i64 2, .int .i64 (b1.toNat : Int), I0]) ∧ ∃ m, w' = w.drewN m := by
 have e0 : (⟨(b0 :: b1 :: r).toArray⟩ : ByteArray)[0]'(by simp [ByteArray.size]) = b0 := rfl;have e1 : (⟨(b0 :: b1 :: r).toArray⟩ : ByteArray)[1]'(by simp [ByteArray.size]) = b1 := rfl;obtain ⟨T, hT⟩ : ∃ T, b0.toNat % 32 = T := ⟨_, rfl⟩;have ha := gd b0;rw [hT] at ha h0;have g1 : decide ((30 : Int) < (T : Int)) = false := an (by omega);have g2 : decide ((b1.toNat : Int) < 128) = true := aA (by omega);have g3 : ((r.length : Int) + 1 + 1 == 1) = false := by simp; omega
 clear hT
 go_enter Tryz.func54, Tryz.ntmps54
 go_wp2_with fail
 go_quiet (fail)
 go_wp2_with fail
 refine aH (v := .tuple #[.int .i64 2, .int .i64 (b1.toNat : Int), I0]) ?_ rfl ⟨rfl, _, rfl⟩
 simp [results, Tryz.f54]
theorem db {P : Program} {w : World} {o : Oper} {a : Act} {K : Act → World → Prop} {Q : Exit → Act → World → Prop} (t : TypeId) (x y : Operand) (ho : o.op = .store t x y)
  (g : Nat) (ty : TypeId) (old cs : Array Value) (hx : a.eval x = .pointer (some ⟨g, 0, none⟩)) (hy : a.eval y = .agg cs) (hg : w.heap[g]? = some (.cells old ty (0, 0))) (hi : (P.info? t).map (·.size) = some cs.size) (hs : old.size = cs.size) (h1 : cs.all (·.oneCell') = true)
  (hK : K (a.put o.dst (.tuple #[])) (w.setRow g cs)) : o.wp P a w K Q := by
 have hr := run_storeVar_row (P := P) w g ty t old cs hg hi hs h1;unfold Oper.wp execOp;simp only [ho, hx, hy, Instr.storeAt, Instr.sureAddr, Sem.run_bind, Sem.run_pure, Result.andThen_ok, hr];exact hK
theorem qC (s : List UInt8) (w : World) (hl : s.length ≤ 1000000000) :
  Cr 107 #[.string ⟨s.toArray⟩] w (.string ⟨s.toArray⟩) := by
 have k := Tryz.stringslite_Clone ⟨s.toArray⟩ w (by rw [Lib.size_mk]; omega)
 go_enter Tryz.func107, Tryz.ntmps107
 go_wp2_with fail
 refine ag k ?_;rintro e w1 ⟨rfl, hb⟩
 go_wp2_with fail
 go_ret
 exact ⟨rfl, hb⟩
def vX : Value → Nat
 | .string s => s.size
 | _ => 0
theorem lo (po pe : Nat) (w : World) :
  CallsD Tryz.prog 55 #[.pointer (some ⟨po, 0, none⟩), .pointer (some ⟨pe, 0, none⟩)] .returning w fun e u' w' => e = .returned (.tuple #[]) ∧ u' = .returning ∧ w' = w := by
 refine callsD_of_wpS Tryz.func55 rfl fun c₀ cs hu => ?_
 apply wpS_seq;apply wpS_region
 simp [wpOpsS, go_sem, recoverD, hu, Tryz.ntmps55, Exit.thenS]
 refine wpS_of_wp ?_;simp only [Array.replicate, List.replicate, List.setIfInBounds_toArray, List.set]
 go_wp2
 cases c₀
 simp_all [bodyPostS, results, Tryz.results55]
def Hk (w w' : World) : Prop := (∀ (g : Nat) (cs : Array Value) (t : TypeId) (fr : Nat × Nat), w.heap[g]? = some (.cells cs t fr) → w'.heap[g]? = some (.cells cs t fr)) ∧ ∀ (g i : Nat) (x : Value), w.cell? ⟨g, i, none⟩ = some x → w'.cell? ⟨g, i, none⟩ = some x
theorem Hk.refl (w : World) : Hk w w := ⟨fun _ _ _ _ h => h, fun _ _ _ h => h⟩
theorem Hk.trans {a b c : World} (h : Hk a b) (k : Hk b c) : Hk a c := ⟨fun _ _ _ _ q => k.1 _ _ _ _ (h.1 _ _ _ _ q), fun _ _ _ q => k.2 _ _ _ (h.2 _ _ _ q)⟩
theorem Hk.below {w w' : World} (h : Below w.heap.size w w') : Hk w w' := ⟨fun g _ _ _ q => (h.block g (gl q)).trans q, fun _ _ _ q => (h.cell (bj q)).trans q⟩
theorem Hk.map {w w' : World} {r : Nat} {es : Array MapEntry} {c : Nat} (hr : w.heap[r]? = some (.map es c)) (h : ∀ j, j ≠ r → w'.heap[j]? = w.heap[j]?) : Hk w w' := by
 refine ⟨fun g cs t fr q => ?_, fun g i x q => ?_⟩
 ·by_cases hg : g = r
  ·subst hg; rw [hr] at q; cases q
  ·exact (h g hg).trans q
 ·by_cases hg : g = r
  ·subst hg; simp [World.cell?, hr] at q
  ·exact (fE (h g hg)).trans q
mutual
theorem ElC.hk {P : Nat → Prop} {w w' : World} (h : Hk w w') : ∀ (e : El) (g o : Nat), ElC P w e g o → ElC P w' e g o
 | .mk c t k b ks, g, o, q => by
  simp only [ElC] at q ⊢;obtain ⟨h0, h1, h2, h3, u, h4, a, cap, hu, hc, hk⟩ := q;refine ⟨h.2 _ _ _ h0, h.2 _ _ _ h1, h.2 _ _ _ h2, h.2 _ _ _ h3, u, h.2 _ _ _ h4, a, cap, hu, hc, fun hn => ?_⟩;obtain ⟨g', o', ha, hp, hs⟩ := hk hn;exact ⟨g', o', ha, hp, cE.hk h ks g' o' hs⟩
theorem cE.hk {P : Nat → Prop} {w w' : World} (h : Hk w w') : ∀ (l : List El) (g o : Nat), cE P w l g o → cE P w' l g o
 | [], _, _, _ => by simp only [cE]
 | e :: r, g, o, q => by
  simp only [cE] at q ⊢;exact ⟨ElC.hk h e g o q.1, cE.hk h r g (o + 5) q.2⟩
end
theorem bf.hk {P : Nat → Prop} {w w' : World} {v : Value} {ks : List El} (q : bf P w v ks) (h : Hk w w') : bf P w' v ks := by
 obtain ⟨a, cap, hv, hc, hk⟩ := q;refine ⟨a, cap, hv, hc, fun hn => ?_⟩;obtain ⟨g, o, ha, hp, hs⟩ := hk hn;exact ⟨g, o, ha, hp, cE.hk h ks g o hs⟩
/-! A region in every order: by what holds behind each of its operations. -/
def gJ (listed : Array Bool) : Nat := (listed.toList.filter (!·)).length
theorem kA : ∀ (l : List Bool) (i : Nat), l[i]? = some false → ((l.set i true).filter (!·)).length + 1 = (l.filter (!·)).length
 | [], i, h => by simp at h
 | b :: l, 0, h => by
  simp at h
  subst h
  simp
 | b :: l, i + 1, h => by
  have ih := kA l i (by simpa using h);cases b <;> simp at ih ⊢ <;> omega
theorem my {listed : Array Bool} {i : Nat} (h : listed.getD i true = false) : gJ (listed.setIfInBounds i true) + 1 = gJ listed := by
 unfold gJ;have h1 : listed.toList[i]? = some false := by
  rcases Nat.lt_or_ge i listed.size with h' | h'
  ·simp [h'] at h ⊢; exact h
  ·simp [Array.getElem?_eq_none h'] at h
 rw [Array.toList_setIfInBounds];exact kA _ _ h1
theorem kB {md : Region.Mode} {ops : Array Oper} (hdown : ∀ (i : Nat) (o : Oper), ops[i]? = some o → ∀ e ∈ o.after, Region.binds md e = true → e.on < i) {listed : Array Bool} (hsz : listed.size = ops.size) (hr : Region.ready md ops listed = []) :
  ∀ i, i < ops.size → listed.getD i false = true := by
 intro i
 induction i using Nat.strongRecOn with
 | _ i ih =>
  intro hi;cases hx : listed.getD i false with
  | true => rfl
  | false =>
   exfalso
   have ho : ops[i]? = some ops[i] := by simp [hi]
   have hm : i ∈ Region.ready md ops listed := mem_ready.2 ⟨by
    have : i < listed.size := by omega
    simp [this] at hx ⊢; exact hx, ops[i], ho, fun e he hb => ih e.on (hdown i _ ho e he hb) (by have := hdown i _ ho e he hb; omega)⟩
   rw [hr] at hm;cases hm
theorem qD {P : Program} {md : Region.Mode} {ops : Array Oper} {Q : Exit → Act → World → Prop} (I : Array Bool → Act → World → Prop)
  (hdown : ∀ (i : Nat) (o : Oper), ops[i]? = some o → ∀ e ∈ o.after, Region.binds md e = true → e.on < i)
  (hdone : ∀ (listed : Array Bool) (a : Act) (w : World), (∀ i, i < ops.size → listed.getD i false = true) → I listed a w → Q .normal a w)
  (hstep : ∀ (i : Nat) (o : Oper) (listed : Array Bool) (a : Act) (w : World), ops[i]? = some o → listed.getD i true = false → listed.size = ops.size → (∀ e ∈ o.after, Region.binds md e = true → listed.getD e.on false = true) → I listed a w →
   wpOp P ops Q i (I (listed.setIfInBounds i true)) a w) :
  ∀ (fuel : Nat) (listed : Array Bool) (a : Act) (w : World), listed.size = ops.size → gJ listed ≤ fuel → I listed a w → wpAny P md ops Q fuel listed a w := by
 intro fuel
 induction fuel with
 | zero =>
  intro listed a w hsz hf hI;have hr : Region.ready md ops listed = [] := by
   cases hx : Region.ready md ops listed with
   | nil => rfl
   | cons j js =>
    have hj : j ∈ Region.ready md ops listed := by rw [hx]; exact List.mem_cons_self
    have := my (mem_ready.1 hj).1
    omega
  exact ⟨hr, hdone _ _ _ (kB hdown hsz hr) hI⟩
 | succ fuel ih =>
  intro listed a w hsz hf hI;refine ⟨fun hr => hdone _ _ _ (kB hdown hsz hr) hI, fun i hi => ?_⟩;obtain ⟨hn, o, ho, hall⟩ := mem_ready.1 hi;have h1 := my hn;exact wpOp_mono (fun a' w' h => ih _ a' w' (by simpa using hsz) (by omega) h) (hstep i o listed a w ho hn hsz hall hI)
theorem s5 {P : Program} {ops : Array Oper} {Q : Exit → Act → World → Prop} {K : Act → World → Prop} {i : Nat} {o : Oper} {a : Act} {w : World} (ho : ops[i]? = some o) (hw : Region.wanted o (yielded ops a.tmps) = true)
  (h : ∀ K' : Act → World → Prop, (∀ a w, K a w → K' a w) → Oper.wp P o a w K' Q) : wpOp P ops Q i K a w := by
 unfold wpOp;rw [ho];simp only [hw, if_true];exact .inl (h _ (fun _ _ k => k))
/-! message.op's closures over a row of elements. -/
theorem gK (v : Value) (w : World) (hv : ∃ a n c, v = .slice a n c) :
  Calls Tryz.prog 114 #[v] w fun e w' => (∃ b, e = .returned (.func (.func 115) #[] #[.pointer (some ⟨b, 0, none⟩)]) ∧ w'.cell? ⟨b, 0, none⟩ = some v) ∧ Below w.heap.size w w' := by
 have hmf : ∀ (fn : Fn) (first cap : Array Value) (w : World), (Instr.makeFunc fn first cap).run Tryz.prog w = .ok (.func fn first cap) w := fun _ _ _ _ => rfl
 obtain ⟨a, n, c, rfl⟩ := hv;have b1 := alb w #[.slice a n c] 43;have c1 : (w.alloc (.cells #[.slice a n c] 43)).cell? ⟨w.heap.size, 0, none⟩ = some (.slice a n c) := (ad (bi w (.cells #[.slice a n c] 43) w.heap.size rfl) 0).trans rfl;have C1 := hid c1;clear c1
 go_enter Tryz.func114, Tryz.ntmps114
 go_wp2_with fail
 go_ret
 exact ⟨⟨_, rfl, C1.out⟩, b1⟩
theorem gh (b : Nat) (v : Value) (l : List El) (w : World) (hc : w.cell? ⟨b, 0, none⟩ = some v) (h : bf (fun _ => True) w v l) (hs : SmL l) (hl : l.length ≤ 1000000000) :
  Calls Tryz.prog 115 #[.pointer (some ⟨b, 0, none⟩)] w fun e w' => (∃ u, e = .returned (.agg (elA (.mk 0 16 true [] l) u)) ∧ bf (fun g => w.heap.size ≤ g) w' u l) ∧ Below w.heap.size w w' := by
 have b1 := alb w Ze 45;have t1 := alz w Ze 45;have c1 := (b1.cell (bj hc)).trans hc;have ks := cH l v (w.alloc (.cells Ze 45)) (h.below b1) hs hl;clear hc h hs hl
 go_enter Tryz.func115, Tryz.ntmps115
 go_wp2_with fail
 generalize w.alloc (.cells Ze 45) = w1 at b1 t1 c1 ks ⊢;refine ag ks ?_;rintro e w2 ⟨⟨u, rfl, hu⟩, hb2⟩;have t2 := (hb2.block _ (gl t1)).trans t1;have b2 := b1.trans (hb2.mono b1.size);have hs1 := b1.size;obtain ⟨E, hE⟩ : ∃ E, elA (.mk 0 16 true [] l) u = E := ⟨_, rfl⟩;have hE1 : E.all (·.oneCell') = true := by
  obtain ⟨a, c, hsl⟩ := hu.shape;subst hsl;rw [← hE]; simp [elA, Value.oneCell']
 have hE2 : E.size = 5 := by rw [← hE]; rfl
 rw [hE];have b3 := bm b2 (g := w.heap.size) (ah _) E;have t3 := setRow_heap w2 w.heap.size _ E _ _ t2;have htl := (gl t1);have u3 : bf (fun g => w.heap.size ≤ g) (w2.setRow w.heap.size E) u l := hu.kept fun g hg hl => ⟨setRow_other w2 w.heap.size g E (by omega), by omega⟩
 have HE := hid hE;have HE1 := hid hE1;have HE2 := hid hE2;have U3 := hid u3;clear ks c1 t1 b1 hb2 hu hE hE1 hE2 u3
 go_wp2_with (refine bh rfl 45 (.tmp 1) (.tmp 3) rfl w.heap.size 45 _ E (by rfl) (by rfl) t2 (by rw [HE2.out]; rfl) (by rw [HE2.out]; rfl) HE1.out ?_)
 refine aH (v := .agg E) ?_ rfl ⟨⟨u, by rw [HE.out], U3.out⟩, b3⟩;have hr := aJ (P := Tryz.prog) (w2.setRow w.heap.size E) w.heap.size 45 45 E (0, 0) _ t3 (show Tryz.prog.underlying 45 = _ from Tryz.underlying45) (by rfl) (by rw [HE2.out]; rfl)
 simp [results, Tryz.f115]
 exact hr
end Go.Proofs.YthjaiigijbjloaaGreatDoor
