/- ReN, PlainBl, PlainSz, PlainSy, WrA. -/
import Derived.Test.YthjaiigijbjloaaGreatDoorT20
namespace Go.Proofs.YthjaiigijbjloaaGreatDoor
open Go.RowKit Go.Lib
set_option maxRecDepth 100000
set_option maxHeartbeats 16000000
theorem nI {w : World} {o : Oper} {a : Act} {K : Act → World → Prop} {Q : Exit → Act → World → Prop} (s x : Operand) (ho : o.op = .call { callee := .builtin .append, args := #[s, x], argTypes := #[26, 26] })
  (B : Nat) (v : Value) (l : List Ct) (hs : a.eval s = v) (hown : cC kdC 62 B w v l) (e : Ct) (c : List Value) (b : Nat) (hx : a.eval x = .slice (some ⟨b, 0, none⟩) 1 1) (hb : w.heap[b]? = some (.cells c.toArray 62 (0, 0)))
  (hke : kdC.R (fun g => B ≤ g ∧ v.ownBlock ≠ some g) w e c) (hl : l.length ≤ 1000000000) (hB : B ≤ w.heap.size)
  (h : ∀ a' c' w', cC kdC 62 B w' (.slice a' (l.length + 1) c') (l ++ [e]) → w.grownBy w' v.ownBlock → K (a.put o.dst (.slice a' (l.length + 1) c')) w') : Oper.wp Tryz.prog o a w K Q := by
 obtain ⟨i0, hi0, hz0, hz1, hz2⟩ := info_parts Tryz.info5C;exact ii kdC 26 62 i0 _ 40 Tryz.underlying26 hi0 hz0 hz1 hz2 rfl (by decide) (by decide) s x ho B v l hs hown e c b hx hb hke hl hB h
structure LsQ (P : Nat → Prop) (w : World) (m : Mg) (l : Ls) : Prop where
 filt : bM kdF P w m.filt l.filt
 sel : bM kdS P w m.sel l.sel
 mods : bM kdM P w m.mods l.mods
 attrs : bM kdA P w m.attrs l.attrs
theorem LsQ.keep {P Q : Nat → Prop} {w w' : World} {m : Mg} {l : Ls} (h : LsQ P w m l) (hk : ∀ g, P g → g < w.heap.size → w'.heap[g]? = w.heap[g]? ∧ Q g) : LsQ Q w' m l :=
 ⟨h.filt.kept hk (by decide), h.sel.kept hk (by decide), h.mods.kept hk (by decide), h.attrs.kept hk (by decide)⟩
structure TdS (w : World) (b b2 B : Nat) (m : Mg) (l : Ls) (rr : List El) (dn : List Ct) (r : List El) (v : Value) (wr : World) : Prop where
 res : wr.heap[w.heap.size + 1]? = some (.cells (Mg.row {}) 28 (0, 0))
 msg : wr.heap[w.heap.size + 2]? = some (.cells (Mg.row { m with ctl := v }) 28 (0, 0))
 own : cC kdC 62 B wr v dn
 ls : LsQ (fun g => w.heap.size + 3 ≤ g ∧ g ≠ b ∧ g ≠ b2 ∧ g < B) wr m l
 row : RowA (fun g => w.heap.size + 3 ≤ g ∧ g ≠ b ∧ g ≠ b2 ∧ g < B) b2 r wr
 row1 : RowA (fun g => w.heap.size + 3 ≤ g ∧ g ≠ b ∧ g ≠ b2 ∧ g < B) b rr wr
 bel : Below w.heap.size w wr
 lb : w.heap.size + 3 ≤ b
 lb2 : b < b2
 lB : b2 < B
 le : B ≤ wr.heap.size
theorem TdS.next {w wr wy : World} {b b2 B : Nat} {m : Mg} {l : Ls} {rr : List El} {dn : List Ct} {r : List El} {v : Value} (h : TdS w b b2 B m l rr dn r v wr) (k : Lft [b2] wr.heap.size wr wy) (r' : List El) (hr : RowA (fun g => w.heap.size + 3 ≤ g ∧ g ≠ b ∧ g ≠ b2 ∧ g < B) b2 r' wy) : TdS w b b2 B m l rr dn r' v wy := by
 obtain ⟨h1, h2, h3, h4, h5, h6, h7, h8, h9, h10, h11⟩ := h;refine ⟨k.at h1 (by simp; omega), k.at h2 (by simp; omega), h3.keep fun j hj hl => k.old hl (by simp; omega), h4.keep fun g hg hl => ⟨k.old hl (by simp; omega), hg⟩, hr, h6.keep k (by simp; omega) (fun g hg _ => by simp; omega), h7.trans (k.below1 (by omega) h7.size), h8, h9, h10, by have := k.size; omega⟩
theorem TdS.lftn {w wr wy : World} {b b2 B : Nat} {m : Mg} {l : Ls} {rr : List El} {dn : List Ct} {r : List El} {v : Value} (h : TdS w b b2 B m l rr dn r v wr) (k : Lft [b2] wr.heap.size wr wy) : Below w.heap.size w wy := h.bel.trans (k.below1 (by have := h.lb; have := h.lb2; omega) h.bel.size)
theorem TdS.to {w wr wy : World} {b b2 B : Nat} {m : Mg} {l : Ls} {rr : List El} {dn : List Ct} {r : List El} {v : Value} (h : TdS w b b2 B m l rr dn r v wr) (k : Below wr.heap.size wr wy) : TdS w b b2 B m l rr dn r v wy :=
 ⟨bk k h.res, bk k h.msg, h.own.keep fun j _ hl => k.block j hl, h.ls.keep fun g hg hl => ⟨k.block g hl, hg⟩, h.row.below k, h.row1.below k, h.bel.trans (k.mono h.bel.size), h.lb, h.lb2, h.lB, by have := h.le; have := k.size; omega⟩
theorem TdS.grown {w wr wy : World} {b b2 B : Nat} {m : Mg} {l : Ls} {rr : List El} {dn : List Ct} {r : List El} {v : Value} (h : TdS w b b2 B m l rr dn r v wr) (hg : wr.grownBy wy v.ownBlock) :
  wy.heap[w.heap.size + 2]? = some (.cells (Mg.row { m with ctl := v }) 28 (0, 0)) ∧ ∀ (v' : Value) (dn' : List Ct), cC kdC 62 B wy v' dn' → TdS w b b2 B m l rr dn' r v' (wy.setCell ⟨w.heap.size + 2, 27, none⟩ v') := by
 obtain ⟨h1, h2, h3, h4, h5, h6, h7, h8, h9, h10, h11⟩ := h;have hs := h7.size;have hne : ∀ g, g < B → wy.heap[g]? = wr.heap[g]? := fun g hg1 => hg.block g (by omega) fun he => by have := (h3.lt he.symm).1; omega
 have hp : wy.heap[w.heap.size + 2]? = some (.cells (Mg.row { m with ctl := v }) 28 (0, 0)) := (hne _ (by omega)).trans h2;have hsy := hg.size;refine ⟨hp, fun v' dn' ho => ?_⟩;have hk : Lft [w.heap.size + 2] wy.heap.size wy (wy.setCell ⟨w.heap.size + 2, 27, none⟩ v') := (Lft.refl wy).set _ _ _ (by simp);have r5 : RowA (fun g => w.heap.size + 3 ≤ g ∧ g ≠ b ∧ g ≠ b2 ∧ g < B) b2 r wy := by
  obtain ⟨⟨u, e1, e2⟩, e3, e4, e5⟩ := h5;exact ⟨⟨u, (hne _ (by omega)).trans e1, e2.kept fun g hg _ => ⟨hne g hg.2.2.2, hg⟩⟩, e3, e4, e5⟩
 have r6 : RowA (fun g => w.heap.size + 3 ≤ g ∧ g ≠ b ∧ g ≠ b2 ∧ g < B) b rr wy := by
  obtain ⟨⟨u, e1, e2⟩, e3, e4, e5⟩ := h6;exact ⟨⟨u, (hne _ (by omega)).trans e1, e2.kept fun g hg _ => ⟨hne g hg.2.2.2, hg⟩⟩, e3, e4, e5⟩
 have bl : Below w.heap.size w wy := ⟨hg.os.trans h7.os, hg.tape.trans h7.tape, hg.output.trans h7.output, by omega, fun j hj => (hne j (by omega)).trans (h7.block j hj)⟩;exact ⟨hk.at ((hne _ (by omega)).trans h1) (by simp), bw (i := 27) (u := v') hp, ho.keep fun j hj hl => hk.old hl (by simp; omega),
  (h4.keep (w' := wy) (Q := fun g => w.heap.size + 3 ≤ g ∧ g ≠ b ∧ g ≠ b2 ∧ g < B) fun g hg _ => ⟨hne g hg.2.2.2, hg⟩).keep fun g hg hl => ⟨hk.old hl (by simp; omega), hg⟩,
  r5.keep hk (by simp; omega) (fun g hg _ => by simp; omega), r6.keep hk (by simp; omega) (fun g hg _ => by simp; omega), bl.trans (hk.below1 (by omega) bl.size), h8, h9, h10, by simp; omega⟩
theorem bM.one {α : Type} {kd : Kd α} {P : Nat → Prop} {w : World} {v : Value} {l : List α} (h : bM kd P w v l) : v.oneCell' = true := by
 obtain ⟨a, c, rfl⟩ := h.shape
 rfl
theorem LsQ.one {P : Nat → Prop} {w : World} {m : Mg} {l : Ls} (h : LsQ P w m l) : m.filt.oneCell' = true ∧ m.sel.oneCell' = true ∧ m.mods.oneCell' = true ∧ m.attrs.oneCell' = true := ⟨h.filt.one, h.sel.one, h.mods.one, h.attrs.one⟩
theorem LsL.one {B : Nat} {w : World} {m : Mg} {l : Ls} (h : LsL B w m l) : m.ctl.oneCell' = true ∧ m.filt.oneCell' = true ∧ m.sel.oneCell' = true ∧ m.mods.oneCell' = true ∧ m.attrs.oneCell' = true := ⟨h.ctl.one, h.filt.one, h.sel.one, h.mods.one, h.attrs.one⟩
theorem LsL.keep {B : Nat} {w w' : World} {m : Mg} {l : Ls} (h : LsL B w m l) (k : ∀ g, B ≤ g → g < w.heap.size → w'.heap[g]? = w.heap[g]?) : LsL B w' m l := by
 have hk : ∀ g, B ≤ g → g < w.heap.size → w'.heap[g]? = w.heap[g]? ∧ B ≤ g := fun g hg hl => ⟨k g hg hl, hg⟩
 exact ⟨h.filt.kept hk (by decide), h.sel.kept hk (by decide), h.mods.kept hk (by decide), h.attrs.kept hk (by decide), h.ctl.kept hk (by decide)⟩
theorem Mg.one (m : Mg) (h : m.ctl.oneCell' = true ∧ m.filt.oneCell' = true ∧ m.sel.oneCell' = true ∧ m.mods.oneCell' = true ∧ m.attrs.oneCell' = true) : m.row.all (·.oneCell') = true := by
 simp [Mg.row, h]
 and_intros <;> rfl
theorem LsL.mono {B B' : Nat} {w : World} {m : Mg} {l : Ls} (h : LsL B w m l) (hB : B' ≤ B) : LsL B' w m l := by
 have hk : ∀ g, B ≤ g → g < w.heap.size → B' ≤ g := fun g hg _ => by omega
 exact ⟨h.filt.mono hk (by decide), h.sel.mono hk (by decide), h.mods.mono hk (by decide), h.attrs.mono hk (by decide), h.ctl.mono hk (by decide)⟩
theorem pi {α : Type} {kd : Kd α} {t : TypeId} {B : Nat} {w : World} {v : Value} {l : List α} (h : cC kd t B w v l) : ∃ a c, v = .slice a l.length c := h.lst.shape
theorem TdS.lists {w wr : World} {b b2 B : Nat} {m : Mg} {l : Ls} {rr : List El} {dn : List Ct} {r : List El} {v : Value} (h : TdS w b b2 B m l rr dn r v wr) (RW : Array Value) : LsL w.heap.size (wr.setRow (w.heap.size + 1) RW) { m with ctl := v } { l with ctl := dn } := by
 have h1 := h.lb;have h2 := h.lb2;have h3 := h.lB;have m10 : Lft [w.heap.size + 1] wr.heap.size wr (wr.setRow (w.heap.size + 1) RW) := (Lft.refl wr).row _ _ (by simp);have hk : ∀ g, (w.heap.size + 3 ≤ g ∧ g ≠ b ∧ g ≠ b2 ∧ g < B) → g < wr.heap.size → (wr.setRow (w.heap.size + 1) RW).heap[g]? = wr.heap[g]? ∧ w.heap.size ≤ g := fun g hg hl => ⟨m10.old hl (by simp; omega), by omega⟩
 exact ⟨h.ls.filt.kept hk (by decide), h.ls.sel.kept hk (by decide), h.ls.mods.kept hk (by decide), h.ls.attrs.kept hk (by decide), h.own.lst.kept (fun g hg hl => ⟨m10.old hl (by simp; omega), by omega⟩) (by decide)⟩
theorem rW (el : El) (u : Value) (w : World) (h : bf (fun _ => True) w u el.kids) (hs : SmE el) (hcn : ed el ≤ 1000000000) :
  Calls Tryz.prog 48 #[.agg (elA el u)] w fun e w' => Out (dU el) (fun y v w' => ∃ m : Mg, v = .agg m.row ∧ m.pl = y.1 ∧ LsL w.heap.size w' m y.2) e w' ∧ Below w.heap.size w w' := by
 obtain ⟨a, c, hf⟩ := h.shape;subst hf;have b1 : Below w.heap.size w (((w.alloc (.cells (Er el a c) 45)).alloc (.cells Zm 28)).alloc (.cells Zm 28)) := (((aq _ _).alloc (ah _) _).alloc (by simp) _).alloc (by simp; omega) _;have r1 : (((w.alloc (.cells (Er el a c) 45)).alloc (.cells Zm 28)).alloc (.cells Zm 28)).heap[w.heap.size]? = some (.cells (Er el a c) 45 (0, 0)) := (alloc_old _ _ _ (by simp; omega)).trans ((alloc_old _ _ _ (by simp)).trans (bi _ _ _ rfl));have n1 : (((w.alloc (.cells (Er el a c) 45)).alloc (.cells Zm 28)).alloc (.cells Zm 28)).heap[w.heap.size + 1]? = some (.cells (Mg.row {}) 28 (0, 0)) := (alloc_old _ _ _ (by simp)).trans (bi _ _ _ (by simp));have m1 : (((w.alloc (.cells (Er el a c) 45)).alloc (.cells Zm 28)).alloc (.cells Zm 28)).heap[w.heap.size + 2]? = some (.cells (Mg.row {}) 28 (0, 0)) := bi _ _ _ (by simp);have kc := dk el _ 0 16 (((w.alloc (.cells (Er el a c) 45)).alloc (.cells Zm 28)).alloc (.cells Zm 28)) (h.below b1) hs;generalize hO : dU el = O;simp only [dU, bS] at hO;have HO := hid hO;clear hO;unfold elA at kc ⊢;clear h hs
 go_enter Tryz.func48, Tryz.ntmps48
 go_upto_region 2 with fail
 generalize (((w.alloc (.cells (Er el a c) 45)).alloc (.cells Zm 28)).alloc (.cells Zm 28)) = w1 at b1 r1 n1 m1 kc ⊢;have hn1 := (gl m1)
 go_wp2_with (refine bg rfl 45 (.tmp 1) rfl w.heap.size 45 _ (0, 0) (by rfl) r1 _ Tryz.underlying45 rfl (by rfl) ?_)
 refine ag kc ?_;rintro x w2 ⟨ho, hb⟩;have b2 := b1.trans (hb.mono b1.size);have n2 := bk hb n1;have m2 := bk hb m1;have hs12 := hb.size;clear kc hb r1 n1 m1 b1;replace HO := HO.out;generalize e1 : ci el 0 16 = E at ho HO;rcases E with _|ks
 ·obtain ⟨rfl, rfl⟩ : x = Pn ∧ none = O := ⟨ho, HO⟩
  exact ⟨rfl, rfl, b2⟩
 obtain ⟨v, rfl, b, rfl, hbge, hrow⟩ := ho
 try simp only [ai] at HO
 replace HO := hid HO;have hck : dL ks ≤ 1000000000 := Nat.le_trans (ji e1) hcn;clear e1 hcn;have kc := fd _ b ks 2 w2 hrow
 go_wp2_with fail
 refine ag kc ?_;rintro x w3 ⟨ho, hb⟩;have b3 := b2.trans (hb.below1 (B := w.heap.size) (by omega) b2.size);have n3 := hb.at n2 (by simp; omega);have m3 := hb.at m2 (by simp; omega);have hs23 := hb.size;clear kc hb n2 m2 b2 hrow;replace HO := HO.out;generalize e1 : em 2 ks = E at ho HO;rcases E with _|n
 ·obtain ⟨rfl, rfl⟩ : x = Pn ∧ none = O := ⟨ho, HO⟩
  exact ⟨rfl, rfl, b3⟩
 obtain ⟨v, rfl, rfl, hrow⟩ := ho
 try simp only [ai] at HO
 replace HO := hid HO;have hck : dL n.2 ≤ 1000000000 := Nat.le_trans (fw (eS (g := fun e => fW e 0 2) e1).2) hck;clear e1;have q3 : w3.cell? ⟨w.heap.size + 2, 0, none⟩ = some (I0) := (ad m3 0).trans rfl;have z3 := aj m3 0;have t4 : Lft [w.heap.size + 2] w3.heap.size w3 (w3.setCell ⟨w.heap.size + 2, 0, none⟩ (.int .i64 n.1)) := (Lft.refl _).set _ _ _ (by simp);have m4 : (w3.setCell ⟨w.heap.size + 2, 0, none⟩ (.int .i64 n.1)).heap[w.heap.size + 2]? = some (.cells (Mg.row { id := n.1 }) 28 (0, 0)) := bw (i := 0) (u := .int .i64 n.1) m3;have n4 := t4.at n3 (by simp);have b4 := b3.trans (t4.below1 (B := w.heap.size) (by omega) b3.size);have row4 := hrow.keep t4 (by simp; omega) (fun g hg _ => by simp; omega);have hs34 := t4.size;clear hrow n3 m3 b3 t4;have kc := cG _ b n.2 (w3.setCell ⟨w.heap.size + 2, 0, none⟩ (.int .i64 n.1)) row4
 go_wp2_with fail
 refine ag kc ?_;rintro x w5 ⟨ho, hb⟩;have b5 := b4.trans (hb.below1 (B := w.heap.size) (by omega) b4.size);have n5 := hb.at n4 (by simp; omega);have m5 := hb.at m4 (by simp; omega);have hs45 := hb.size;clear kc hb n4 m4 b4 row4 q3 z3;replace HO := HO.out;generalize e1 : ch n.2 = E at ho HO;rcases E with _|q
 ·obtain ⟨rfl, rfl⟩ : x = Pn ∧ none = O := ⟨ho, HO⟩
  exact ⟨rfl, rfl, b5⟩
 obtain ⟨v, rfl, u5, rfl, hse, hu, hrow⟩ := ho
 try simp only [ai] at HO
 replace HO := hid HO;have hcq : ed q.1 ≤ 1000000000 := by
  rw [kx e1] at hck;simp only [dL] at hck
  omega
 clear e1 hck;obtain ⟨a5, c5, hf5⟩ := hu.shape;subst hf5;have kc := rV _ q.1 _ n.1 (w.heap.size + 2) w5 m5 hu hse (fun g hg => by omega) hcq
 go_wp2_with fail
 refine ag kc ?_;rintro x w6 ⟨ho, hb⟩;have b6 := b5.trans (hb.below1 (B := w.heap.size) (by omega) b5.size);have n6 := hb.at n5 (by simp);have row6 := hrow.keep hb (by simp; omega) (fun g hg _ => by simp; omega);have hs56 := hb.size;have hb5 := hrow.lt;clear kc hb n5 m5 b5 hu hse hrow hcq;replace HO := HO.out;generalize oOp n.1 q.1 = E at ho HO;rcases E with _|y
 ·obtain ⟨rfl, rfl⟩ : x = Pn ∧ none = O := ⟨ho, HO⟩
  exact ⟨rfl, rfl, b6⟩
 obtain ⟨v, rfl, rfl, hmo⟩ := ho
 try simp only [ai, aw] at HO
 replace HO := hid HO;have kc := iq _ b q.2 2 0 w6 row6;obtain ⟨B, hB⟩ : ∃ B, da 2 0 q.2 = B := ⟨_, rfl⟩;have hO := HO.out;clear HO;rw [hB] at kc hO;have HO := hid hO;clear hO hB
 go_wp2_with fail
 refine ag kc ?_;rintro x w7 ⟨rfl, hb⟩;have b7 := b6.trans (hb.mono b6.size);have n7 := bk hb n6;have row7 := row6.below hb;have mo7 := hmo.to (X := []) (.of hb) (by simp) (by simp);have hs67 := hb.size;clear kc hb b6 n6 row6 hmo;cases B with
 | false =>
  have hO := HO.out;clear HO;rw [if_neg (by simp)] at hO;have HO := hid hO;clear hO;have kc := cX _ b q.2 w7 row7
  go_wp2_with fail
  refine ag kc ?_;rintro x w8 ⟨ho, hb⟩;have b8 := b7.trans (hb.mono b7.size);have n8 := bk hb n7;have mo8 := mo7.to (X := []) (.of hb) (by simp) (by simp);have hs78 := hb.size;clear kc hb b7 n7 row7 mo7;replace HO := HO.out;rw [dJ] at HO;generalize bN () q.2 = E at ho HO;rcases E with _|uu
  ·obtain ⟨rfl, rfl⟩ : x = Pn ∧ none = O := ⟨ho, HO⟩
   exact ⟨rfl, rfl, b8⟩
  obtain ⟨v, rfl, rfl⟩ := ho
  try simp only [aw] at HO
  replace HO := hid HO;obtain ⟨m, hm, hpl, hls, hctl⟩ := mo8;have one27 : m.ctl.oneCell' = true ∧ m.filt.oneCell' = true ∧ m.sel.oneCell' = true ∧ m.mods.oneCell' = true ∧ m.attrs.oneCell' = true := LsL.one hls;have hO := HO.out;clear HO;have HO := hid (show some (m.pl, y.2) = O by rw [hpl]; exact hO);clear hO hpl;obtain ⟨RW, hRW⟩ : ∃ RW, Mg.row m = RW := ⟨_, rfl⟩;have hR1 : RW.size = 28 := by rw [← hRW]; rfl
  have hR2 : RW.all (·.oneCell') = true := by rw [← hRW]; exact Mg.one _ one27
  have m9 := hm;rw [hRW] at m9;have m10 : Lft [w.heap.size + 1] w8.heap.size w8 (w8.setRow (w.heap.size + 1) RW) := (Lft.refl w8).row _ _ (by simp);have B10 := hid (b8.trans (m10.below1 (B := w.heap.size) (by omega) b8.size));have N10 := hid (setRow_heap w8 (w.heap.size + 1) _ RW _ _ n8);have l10 : LsL w.heap.size (w8.setRow (w.heap.size + 1) RW) m y.2 := ((hls.keep (w' := w8.setRow (w.heap.size + 1) RW) (fun g hg hl => setRow_other _ _ g RW (by omega))).mono (by omega));have L10 := hid l10;clear l10;have xE := hid m9;have nE := hid n8;have HRW := hid hRW;have HR1 := hid hR1;have HR2 := hid hR2;clear m10 b8 m9 n8 hRW hR1 hR2
  go_wp2_with (first | (refine bg rfl 28 (.tmp 3) rfl (w.heap.size + 2) 28 _ (0, 0) (by rfl) xE.out _ Tryz.underlying28 rfl (by rw [HR1.out]; rfl) ?_) | (refine bh rfl 28 (.tmp 2) (.tmp 35) rfl (w.heap.size + 1) 28 _ RW (by rfl) (by rfl) nE.out (by rw [HR1.out]; rfl) (by rw [HR1.out]; rfl) HR2.out ?_))
  have hO := HO.out;subst hO;refine aH (v := .agg RW) ?_ rfl ⟨⟨_, rfl, _, by rw [HRW.out], rfl, L10.out⟩, B10.out⟩;have hr := aJ (P := Tryz.prog) _ (w.heap.size + 1) 28 28 RW (0, 0) _ N10.out (show Tryz.prog.underlying 28 = _ from Tryz.underlying28) (by rfl) (by rw [HR1.out]; rfl)
  simp [results, Tryz.f48]
  exact hr
 | true =>
  have hO := HO.out;clear HO;rw [if_pos rfl] at hO;have HO := hid hO;clear hO;have kc := cG _ b q.2 w7 row7
  go_wp2_with fail
  refine ag kc ?_;rintro x w8 ⟨ho, hb⟩;have b8 := b7.trans (hb.below1 (B := w.heap.size) (by omega) b7.size);have n8 := hb.at n7 (by simp; omega);have mo8 := mo7.to hb (by simp; omega) (by simp; omega);have hs78 := hb.size;clear kc hb b7 n7 row7 mo7;replace HO := HO.out;generalize ch q.2 = E at ho HO;rcases E with _|rq
  ·obtain ⟨rfl, rfl⟩ : x = Pn ∧ none = O := ⟨ho, HO⟩
   exact ⟨rfl, rfl, b8⟩
  obtain ⟨v, rfl, u6, rfl, hse, hu, hrow⟩ := ho
  try simp only [ai] at HO
  replace HO := hid HO;obtain ⟨a6, c6, hf6⟩ := hu.shape;subst hf6;have kc := dk rq.1 _ 2 0 w8 (hu.mono fun _ _ _ => trivial) hse
  go_wp2_with fail
  refine ag kc ?_;rintro x w9 ⟨ho, hb⟩;have b9 := b8.trans (hb.mono b8.size);have n9 := bk hb n8;have mo9 := mo8.to (X := []) (.of hb) (by simp) (by simp);have row9 := hrow.shut.below hb;have hs89 := hb.size;have hbk := hb;clear kc hb b8 n8 hrow hu hse;replace HO := HO.out;generalize ci rq.1 2 0 = E at ho HO;rcases E with _|ks2
  ·obtain ⟨rfl, rfl⟩ : x = Pn ∧ none = O := ⟨ho, HO⟩
   exact ⟨rfl, rfl, b9⟩
  obtain ⟨v, rfl, b2, rfl, hb2ge, hrow2⟩ := ho
  try simp only [ai] at HO
  replace HO := hid HO;have hb8 : b < w8.heap.size := by omega
  have hb29 := hrow2.lt;obtain ⟨m, hm, hpl, hls, hctl⟩ := mo8;obtain ⟨m9, hm9⟩ : ∃ x, w9.heap.size = x := ⟨_, rfl⟩;have hmm := bk hbk hm;have hls9 : LsQ (fun g => w.heap.size + 3 ≤ g ∧ g ≠ b ∧ g ≠ b2 ∧ g < w9.heap.size) w9 m y.2 := by
   have hk : ∀ g, w5.heap.size ≤ g → g < w8.heap.size → w9.heap[g]? = w8.heap[g]? ∧ (w.heap.size + 3 ≤ g ∧ g ≠ b ∧ g ≠ b2 ∧ g < w9.heap.size) := fun g hg hl => ⟨hbk.block g hl, by omega, by omega, by omega, by omega⟩
   exact ⟨hls.filt.kept hk (by decide), hls.sel.kept hk (by decide), hls.mods.kept hk (by decide), hls.attrs.kept hk (by decide)⟩
  have hO := HO.out;clear HO mo9;have hkl : ks2.length ≤ 1000000000 := hrow2.len;obtain ⟨F, hF⟩ : ∃ F : List Ct → Option (Mg × Ls), F = fun c => bN (y.1, { y.2 with ctl := c }) rq.2 := ⟨_, rfl⟩
  have hO : (dC eR ks2).bind (fun a => F ([] ++ a)) = O := by
   rw [← hO, hF];cases dC eR ks2 <;> rfl
  have hst : TdS w b b2 w9.heap.size m y.2 rq.2 [] ks2 (Sn) w9 := ⟨n9, by rw [← hctl]; exact hmm, cC.nil _ _ _ _, hls9, hrow2.shut.mono (fun g hg => ⟨by omega, by omega, hg.1.2, hg.2⟩) (fun g hg => hg.2.2.1), row9.mono (fun g hg => ⟨by omega, hg.1.2, by omega, by omega⟩) (fun g hg => hg.2.1), b9, by omega, by omega, hb29, ah _⟩;clear n9 hmm hls9 hrow2 row9 b9 hm hls hbk;have HST := hid hst;have HO := hid hO;have HF := hid hF;have HPL := hid hpl;clear hst hO hF hpl hctl;rw [hm9] at HST;clear hm9
  go_wp2_with fail
  go_loopw [] (fun wr => ∃ dn r v, dn.length + r.length ≤ 1000000000 ∧ TdS w b b2 m9 m y.2 rq.2 dn r v wr ∧ (dC eR r).bind (fun a => F (dn ++ a)) = O) (fun wr => rowN b2 wr)
  case atStart => exact ⟨[], ks2, _, by simpa using hkl, HST.out, HO.out⟩
  case round =>
   clear HST HO hkl;obtain ⟨dn, r, v, hdl, hst, hO⟩ := hrel;obtain ⟨ar, cr, qb⟩ := hst.row.cell;have hrN := hid hst.row.rowN;obtain ⟨av, cv, hsv⟩ := pi hst.own;subst hsv;have HST := hid hst;have hszr := hst.le;have hlb := hst.lb;have hlb2 := hst.lb2;have hlB := hst.lB;clear hst;cases r with
   | nil =>
    simp only [aU] at qb;simp only [dC, ai, List.append_nil] at hO;have hO : bN (y.1, ({ y.2 with ctl := dn } : Ls)) rq.2 = O := by rw [← hO, HF.out]
    have HO := hid hO;clear hO;have kc := cX _ b rq.2 wr HST.out.row1
    go_wp2_with fail
    refine ag kc ?_;rintro x w10 ⟨ho, hb⟩;have S10 := HST.out.to hb;have b10 := S10.bel;have n10 := S10.res;clear kc hb HST hrN qb;replace HO := HO.out;rw [dJ] at HO;generalize bN () rq.2 = E at ho HO;rcases E with _|uu
    ·obtain ⟨rfl, rfl⟩ : x = Pn ∧ none = O := ⟨ho, HO⟩
     exact ⟨rfl, rfl, b10⟩
    obtain ⟨v, rfl, rfl⟩ := ho
    try simp only [aw] at HO
    replace HO := hid HO;have one27 : (Value.slice av dn.length cv).oneCell' = true ∧ m.filt.oneCell' = true ∧ m.sel.oneCell' = true ∧ m.mods.oneCell' = true ∧ m.attrs.oneCell' = true := ⟨rfl, LsQ.one S10.ls⟩;have hO := HO.out;clear HO;have HO := hid (show some (({ m with ctl := .slice av dn.length cv } : Mg).pl, ({ y.2 with ctl := dn } : Ls)) = O by rw [← hO]; simp only [← HPL.out]; rfl);clear hO;obtain ⟨RW, hRW⟩ : ∃ RW, Mg.row ({ m with ctl := .slice av dn.length cv } : Mg) = RW := ⟨_, rfl⟩;have hR1 : RW.size = 28 := by rw [← hRW]; rfl
    have hR2 : RW.all (·.oneCell') = true := by rw [← hRW]; exact Mg.one _ one27
    have m9 := S10.msg;rw [hRW] at m9;have m10 : Lft [w.heap.size + 1] w10.heap.size w10 (w10.setRow (w.heap.size + 1) RW) := (Lft.refl w10).row _ _ (by simp);have B10 := hid (b10.trans (m10.below1 (B := w.heap.size) (by omega) b10.size));have N10 := hid (setRow_heap w10 (w.heap.size + 1) _ RW _ _ n10);have l10 : LsL w.heap.size (w10.setRow (w.heap.size + 1) RW) ({ m with ctl := .slice av dn.length cv } : Mg) ({ y.2 with ctl := dn } : Ls) := (TdS.lists S10 RW);have L10 := hid l10;clear l10;have xE := hid m9;have nE := hid n10;have HRW := hid hRW;have HR1 := hid hR1;have HR2 := hid hR2;clear m10 b10 m9 n10 hRW hR1 hR2
    go_wp2_with (first | (refine bg rfl 28 (.tmp 3) rfl (w.heap.size + 2) 28 _ (0, 0) (by rfl) xE.out _ Tryz.underlying28 rfl (by rw [HR1.out]; rfl) ?_) | (refine bh rfl 28 (.tmp 2) (.tmp 35) rfl (w.heap.size + 1) 28 _ RW (by rfl) (by rfl) nE.out (by rw [HR1.out]; rfl) (by rw [HR1.out]; rfl) HR2.out ?_))
    have hO := HO.out;subst hO;refine aH (v := .agg RW) ?_ rfl ⟨⟨_, rfl, _, by rw [HRW.out], rfl, L10.out⟩, B10.out⟩;have hr := aJ (P := Tryz.prog) _ (w.heap.size + 1) 28 28 RW (0, 0) _ N10.out (show Tryz.prog.underlying 28 = _ from Tryz.underlying28) (by rfl) (by rw [HR1.out]; rfl)
    simp [results, Tryz.f48]
    exact hr
   | cons e t =>
    simp only [aG] at qb;have i1 : decide ((0 : Int) < (t.length : Int) + 1) = true := aA (by omega);have HO := hid hO;clear hO
    go_upto_region 8 with fail
    refine aR (S := fun _ => True) (by kernel_rfl) ?_;have S4 := hid (HST.out.to (wy := wr.drew) ((aq _ _).drew))
    change wpAnyH _ _ _ _ _ _ _ _ wr.drew
    clear HST qb;generalize wr.drew = w4 at S4 ⊢;refine tp 0 ⟨w.heap.size + 2, 27, none⟩ rfl trivial ?_;refine tp 2 ⟨b2, 0, none⟩ rfl trivial ?_;have kc := cG _ b2 (e :: t) w4 S4.out.row;have qu : w4.cell? ⟨w.heap.size + 2, 27, none⟩ = some (.slice av dn.length cv) := (ad S4.out.msg 27).trans rfl;have hal1 : dn.length ≤ 1000000000 := by omega
    refine fq 1 3 (by kernel_rfl) rfl (by rfl) rfl (by rfl) (fun K hK => ?P1) (fun K hK => ?P2)
    case' P1 =>
     go_simp; refine hK _ _ trivial ?_; clear hK K
     refine ao 3 rfl (fun K hK => ?_); go_simp; go_wp2_with fail
     refine ag kc ?_;rintro x w5 ⟨ho, hb⟩;obtain ⟨v5, rfl, u5, rfl, hse, hu, hrow⟩ := ho;obtain ⟨a5, c5, hf5⟩ := hu.shape;subst hf5;have S5 := hid (S4.out.next hb _ hrow);have kc := iW e _ w5 (hu.mono fun _ _ _ => trivial) hse;have qu5 : w5.cell? ⟨w.heap.size + 2, 27, none⟩ = some (.slice av dn.length cv) := (ad S5.out.msg 27).trans rfl;clear hb hrow hu hse S4 qu;refine hK _ _ trivial ?_; clear hK K
     refine ao 4 rfl (fun K hK => ?_); go_simp; go_wp2_with fail
     refine ag kc ?_;rintro x w6 ⟨ho, hb⟩;have S6 := S5.out.to hb;have b6 := S6.bel;have hO := HO.out;clear HO kc;simp only [dC] at hO;obtain ⟨oc, hE⟩ : ∃ o, eR e = o := ⟨_, rfl⟩;rw [hE] at ho hO;cases oc
     case' none =>
      have hx : x = Pn := ho;subst hx;simp only [ba] at hO;subst hO;exact ⟨rfl, rfl, b6⟩
     rename_i z
     obtain ⟨v6, rfl, rfl⟩ := ho;simp only [ai] at hO;have HO := hid hO;have qu6 : w6.cell? ⟨w.heap.size + 2, 27, none⟩ = some (.slice av dn.length cv) := (ad S6.msg 27).trans rfl;have m7 := alb w6 #[.string ⟨z.oid.toArray⟩, .bool z.crit, .bool z.has, .string ⟨z.value.toArray⟩] 62;have x7 := alz w6 #[.string ⟨z.oid.toArray⟩, .bool z.crit, .bool z.has, .string ⟨z.value.toArray⟩] 62;have S7 := S6.to m7;have hs7 := S7.le;have qu7 : (w6.alloc (.cells #[.string ⟨z.oid.toArray⟩, .bool z.crit, .bool z.has, .string ⟨z.value.toArray⟩] 62)).cell? ⟨w.heap.size + 2, 27, none⟩ = some (.slice av dn.length cv) := (ad S7.msg 27).trans rfl;have X7 := hid x7;have S7 := hid S7;clear hb S6 b6 hO hE m7 x7 S5 qu5;refine hK _ _ trivial ?_; clear hK K
     refine ao 5 rfl (fun K hK => ?_); go_simp; refine hK _ _ trivial ?_; clear hK K
    case' P2 =>
     go_simp; go_wp2_with fail
     refine ag kc ?_;rintro x w5 ⟨ho, hb⟩;obtain ⟨v5, rfl, u5, rfl, hse, hu, hrow⟩ := ho;obtain ⟨a5, c5, hf5⟩ := hu.shape;subst hf5;have S5 := hid (S4.out.next hb _ hrow);have kc := iW e _ w5 (hu.mono fun _ _ _ => trivial) hse;have qu5 : w5.cell? ⟨w.heap.size + 2, 27, none⟩ = some (.slice av dn.length cv) := (ad S5.out.msg 27).trans rfl;clear hb hrow hu hse S4 qu;refine hK _ _ trivial ?_; clear hK K
     refine fq 1 4 (by kernel_rfl) rfl (by rfl) rfl (by rfl) (fun K hK => ?P3) (fun K hK => ?P4)
     case' P3 =>
      go_simp; refine hK _ _ trivial ?_; clear hK K
      refine ao 4 rfl (fun K hK => ?_); go_simp; go_wp2_with fail
      refine ag kc ?_;rintro x w6 ⟨ho, hb⟩;have S6 := S5.out.to hb;have b6 := S6.bel;have hO := HO.out;clear HO kc;simp only [dC] at hO;obtain ⟨oc, hE⟩ : ∃ o, eR e = o := ⟨_, rfl⟩;rw [hE] at ho hO;cases oc
      case' none =>
       have hx : x = Pn := ho;subst hx;simp only [ba] at hO;subst hO;exact ⟨rfl, rfl, b6⟩
      rename_i z
      obtain ⟨v6, rfl, rfl⟩ := ho;simp only [ai] at hO;have HO := hid hO;have qu6 : w6.cell? ⟨w.heap.size + 2, 27, none⟩ = some (.slice av dn.length cv) := (ad S6.msg 27).trans rfl;have m7 := alb w6 #[.string ⟨z.oid.toArray⟩, .bool z.crit, .bool z.has, .string ⟨z.value.toArray⟩] 62;have x7 := alz w6 #[.string ⟨z.oid.toArray⟩, .bool z.crit, .bool z.has, .string ⟨z.value.toArray⟩] 62;have S7 := S6.to m7;have hs7 := S7.le;have qu7 : (w6.alloc (.cells #[.string ⟨z.oid.toArray⟩, .bool z.crit, .bool z.has, .string ⟨z.value.toArray⟩] 62)).cell? ⟨w.heap.size + 2, 27, none⟩ = some (.slice av dn.length cv) := (ad S7.msg 27).trans rfl;have X7 := hid x7;have S7 := hid S7;clear hb S6 b6 hO hE m7 x7 S5 qu5;refine hK _ _ trivial ?_; clear hK K
      refine ao 5 rfl (fun K hK => ?_); go_simp; refine hK _ _ trivial ?_; clear hK K
     case' P4 =>
      go_simp; go_wp2_with fail
      refine ag kc ?_;rintro x w6 ⟨ho, hb⟩;have S6 := S5.out.to hb;have b6 := S6.bel;have hO := HO.out;clear HO kc;simp only [dC] at hO;obtain ⟨oc, hE⟩ : ∃ o, eR e = o := ⟨_, rfl⟩;rw [hE] at ho hO;cases oc
      case' none =>
       have hx : x = Pn := ho;subst hx;simp only [ba] at hO;subst hO;exact ⟨rfl, rfl, b6⟩
      rename_i z
      obtain ⟨v6, rfl, rfl⟩ := ho;simp only [ai] at hO;have HO := hid hO;have qu6 : w6.cell? ⟨w.heap.size + 2, 27, none⟩ = some (.slice av dn.length cv) := (ad S6.msg 27).trans rfl;have m7 := alb w6 #[.string ⟨z.oid.toArray⟩, .bool z.crit, .bool z.has, .string ⟨z.value.toArray⟩] 62;have x7 := alz w6 #[.string ⟨z.oid.toArray⟩, .bool z.crit, .bool z.has, .string ⟨z.value.toArray⟩] 62;have S7 := S6.to m7;have hs7 := S7.le;have qu7 : (w6.alloc (.cells #[.string ⟨z.oid.toArray⟩, .bool z.crit, .bool z.has, .string ⟨z.value.toArray⟩] 62)).cell? ⟨w.heap.size + 2, 27, none⟩ = some (.slice av dn.length cv) := (ad S7.msg 27).trans rfl;have X7 := hid x7;have S7 := hid S7;clear hb S6 b6 hO hE m7 x7 S5 qu5;refine hK _ _ trivial ?_; clear hK K
      refine fq 1 5 (by kernel_rfl) rfl (by rfl) rfl (by rfl) (fun K hK => ?P5) (fun K hK => ?P6)
      case' P5 =>
       go_simp; refine hK _ _ trivial ?_; clear hK K
       refine ao 5 rfl (fun K hK => ?_); go_simp; refine hK _ _ trivial ?_; clear hK K
      case' P6 =>
       go_simp; refine hK _ _ trivial ?_; clear hK K
       refine ao 1 rfl (fun K hK => ?_); go_simp; refine hK _ _ trivial ?_; clear hK K
    all_goals
     clear qu6;generalize (w6.alloc (.cells #[.string ⟨z.oid.toArray⟩, .bool z.crit, .bool z.has, .string ⟨z.value.toArray⟩] 62)) = w7 at X7 S7 qu7 hs7 ⊢;refine ao 6 rfl (fun K hK => ?_);refine nI _ _ (by rfl) m9 (.slice av dn.length cv) dn (by rfl) S7.out.own z [.string ⟨z.oid.toArray⟩, .bool z.crit, .bool z.has, .string ⟨z.value.toArray⟩] w6.heap.size (by rfl) X7.out rfl hal1 hs7 ?_;intro a' c' w8 ho8 hg8;have hp8 := (S7.out.grown hg8).1;have S9 := hid ((S7.out.grown hg8).2 _ _ ho8);have q8 : w8.cell? ⟨w.heap.size + 2, 27, none⟩ = some (.slice av dn.length cv) := (ad hp8 27).trans rfl;have z8 := aj hp8 27;clear S7 X7 hp8 ho8 hg8 qu7;refine hK _ _ trivial ?_; clear hK K
     refine ao 7 rfl (fun K hK => ?_); go_simp; refine hK _ _ trivial ?_; clear hK K
     refine ao 8 rfl (fun K hK => ?_); go_simp; refine hK _ _ trivial ?_; clear hK K
     refine aV (by kernel_rfl) ?_ _;simp only [Exit.inBlock];refine ⟨?_, ?_⟩
     ·(repeat apply Exists.intro)
      refine ⟨⟨dn ++ [z], t, _, by simp at hdl ⊢; omega, by simpa using S9.out, ?_⟩, rfl⟩;have hO := HO.out;rw [← hO];cases dC eR t <;> simp
     ·have h1 := hrN.out
      have h2 := S9.out.row.rowN;simp only [aG] at h1;have h3 : rowN b2 (w8.setCell ⟨w.heap.size + 2, 27, none⟩ (.slice a' (dn.length + 1) c')) < rowN b2 wr := by omega
      exact h3
theorem pj (m : Mg) : (bo m).id = m.id ∧ (bo m).op = m.op := by
 have key : ∀ (p : Prop) [Decidable p] (a b : Mg), (a.id = m.id ∧ a.op = m.op) → (b.id = m.id ∧ b.op = m.op) → ((if p then a else b).id = m.id ∧ (if p then a else b).op = m.op) := fun p _ a b ha hb => by split <;> assumption
 unfold bo
 repeat' (first | apply key | exact ⟨rfl, rfl⟩)
theorem s9 {m : Mg} (h : gC (bo m) m = true) : m.pl = (bo m).pl := by
 obtain ⟨h1, h2⟩ := pj m;generalize bo m = b at h h1 h2 ⊢;simp only [gC, List.all_cons, List.all_nil, id, aI, aT, and_true] at h;cases b;cases m;simp only [Mg.pl, Mg.mk.injEq] at h h1 h2 ⊢
 simp_all
theorem lp {m : Mg} {l : Ls} (h : bH m l = true) : m.pl = (bo m).pl ∧ iB m l = true ∧ l.ctl.any eL = false := by
 simp only [bH, aI, Bool.not_eq_true'] at h;exact ⟨s9 h.1.1.2, h.1.2, h.2⟩
theorem qE {f : List Fl} (h : dz f = true) : dA (cD 20 f).1 = some f := by
 simp only [dz, aI, aT] at h;obtain ⟨_, h⟩ := h;cases hw : bG 20 f with
 | none => rw [hw] at h; cases h
 | some r =>
  rw [hw] at h;cases r with
  | cons x y => cases h
  | nil =>
   obtain ⟨pre, e1, _, e3⟩ := ku 20 f [] hw;rw [List.append_nil] at e1;rw [e1] at e3 ⊢;exact e3
theorem ef {n k : Int} (h : bB n k = true) : 0 ≤ n ∧ n ≤ k := by simpa [bB] using h
theorem ev {id t : Int} {ks : List El} (h2 : t ≠ 2) (h10 : t ≠ 10) (h16 : t ≠ 16) : oOp id (.mk 1 t true [] ks) = (oDo id t ks).bind fun x => bN x.1 x.2 := by
 simp only [oOp, El.tag, h2, h10, h16, if_false, ew, ai]
theorem jQ (c t : Int) (ks r : List El) : bS (fun e => ci e c t) (.mk c t true [] ks :: r) = some (ks, r) := dm r (ew c t [] ks)
theorem rX (c t : Int) (s : List UInt8) (r : List El) : bS (fun e => dK e c t) (.mk c t false s [] :: r) = some (s, r) := dm r (fJ c t s [])
theorem ta {m : Mg} {l : Ls} (h : bH m l = true) : oOp m.id (opE m l) = some (m.pl, l.bare) := by
 have hk := (bT h).1;obtain ⟨hp, hl, _⟩ := lp h;obtain ⟨hn3, hn6, hn8⟩ := rP hl;clear h hl
 by_cases h0 : m.op = 0
 ·have e : l.bare = {} := by simp [Ls.bare, hn3 (by omega), hn6 (by omega), hn8 (by omega)]
  have hv : 1 ≤ m.ver ∧ m.ver ≤ 127 := by simpa [br, h0] using hk
  rw [hp, e];have hv2 : ((m.ver.toNat : Nat) : Int) = m.ver := by omega
  simp only [opE, h0, if_true];rw [ev (by decide) (by decide) (by decide)];simp only [oDo, if_true, gU];rw [eE _ _ _ (by omega)];simp only [ai];rw [cq];simp only [ai, ip];cases hs : m.sasl
  ·simp only [aW, if_false]
   rw [gg]
   simp [bN, bo, h0, Mg.pl, hv2, hs]
  ·simp only [if_true]
   rw [gI _ _ (by simp [da, El.cls, El.tag])];simp only [ai, aW, if_false];rw [jQ];simp only [ai];rw [cq]
   simp [bN, bo, h0, Mg.pl, hv2, hs]
 by_cases h2 : m.op = 2
 ·have e : l.bare = {} := by simp [Ls.bare, hn3 (by omega), hn6 (by omega), hn8 (by omega)]
  rw [hp, e];rw [opE, if_neg h0, if_pos h2];simp only [oOp, El.tag, if_true];rw [fJ]
  simp [bo, h2, Mg.pl, ez]
 by_cases h3 : m.op = 3
 ·have e : l.bare = { filt := l.filt, sel := l.sel } := by simp [Ls.bare, hn6 (by omega), hn8 (by omega)]
  have hv : bB m.scope 2 = true ∧ bB m.deref 3 = true ∧ bB m.size 2147483647 = true ∧ bB m.time 2147483647 = true ∧ dz l.filt = true := by
   simp only [br, h3, if_true, show ¬ ((3 : Int) = 0) by decide, show ¬ ((3 : Int) = 2) by decide, if_false, aI] at hk;exact ⟨hk.1.1.1.1, hk.1.1.1.2, hk.1.1.2, hk.1.2, hk.2⟩
  obtain ⟨v1, v2, v3, v4, v5⟩ := hv;have v1 := ef v1;have v2 := ef v2;have v3 := ef v3;have v4 := ef v4;have f5 := qE v5;rw [hp, e];have w1 : ((m.scope.toNat : Nat) : Int) = m.scope := by omega
  have w2 : ((m.deref.toNat : Nat) : Int) = m.deref := by omega
  have w3 : ((m.size.toNat : Nat) : Int) = m.size := by omega
  have w4 : ((m.time.toNat : Nat) : Int) = m.time := by omega
  have hop : opE m l = .mk 1 3 true [] (cY m.dn m.scope.toNat m.deref.toNat m.size.toNat m.time.toNat m.types (cD 20 l.filt).1 l.sel) := by rw [opE, if_neg h0, if_neg h2, if_pos h3]
  rw [hop, ev (by decide) (by decide) (by decide)];simp only [oDo, show ¬ ((3 : Int) = 0) by decide, if_true, if_false, fG, cY];rw [cq];simp only [ai];rw [eE _ _ _ (by omega)];simp only [ai];rw [eE _ _ _ (by omega)];simp only [ai];rw [eE _ _ _ (by omega)];simp only [ai];rw [eE _ _ _ (by omega)];simp only [ai];rw [go];simp only [ai];rw [dm _ f5];simp only [ai];rw [jQ];simp only [ai];rw [li]
  simp [bN, bo, h3, Mg.pl, w1, w2, w3, w4]
 by_cases h6 : m.op = 6
 ·have e : l.bare = { mods := l.mods } := by simp [Ls.bare, hn3 (by omega), hn8 (by omega)]
  have hv : l.mods.all (fun x => bB x.1 2) = true := by simpa [br, h6] using hk
  rw [hp, e];rw [opE, if_neg h0, if_neg h2, if_neg h3, if_pos h6];rw [ev (by decide) (by decide) (by decide)];simp only [oDo, show ¬ ((6 : Int) = 0) by decide, show ¬ ((6 : Int) = 3) by decide, if_true, if_false, fH];rw [cq];simp only [ai];rw [dm (x := l.mods) [] (by simp only [eA]; rw [ew]; exact qr _ hv)]
  simp [bN, bo, h6, Mg.pl]
 by_cases h8 : m.op = 8 ∨ m.op = 4
 ·have e : l.bare = { attrs := l.attrs } := by simp [Ls.bare, hn3 (by omega), hn6 (by omega)]
  have ha : ∀ r : List El, bS (eA dO) (.mk 0 16 true [] (l.attrs.map bI) :: r) = some (l.attrs, r) := fun r => by
   refine dm r ?_;simp only [eA];rw [ew];have := jN (g := dO) (f := bI) (k := id) l.attrs (fun x _ => jH x)
   simpa using this
  rw [hp, e];rw [opE, if_neg h0, if_neg h2, if_neg h3, if_neg h6, if_pos h8];rcases h8 with h8 | h8
  ·rw [h8]
   rw [ev (by decide) (by decide) (by decide)];simp only [oDo, show ¬ ((8 : Int) = 0) by decide, show ¬ ((8 : Int) = 3) by decide, show ¬ ((8 : Int) = 6) by decide, if_true, if_false, fh];rw [cq];simp only [ai];rw [ha]
   simp [bN, bo, h8, Mg.pl]
  ·rw [h8]
   rw [ev (by decide) (by decide) (by decide)];simp only [oDo, show ¬ ((4 : Int) = 0) by decide, show ¬ ((4 : Int) = 3) by decide, show ¬ ((4 : Int) = 6) by decide, show ¬ ((4 : Int) = 8) by decide, if_true, if_false, fh];rw [cq];simp only [ai];rw [ha]
   simp [bN, bo, h8, Mg.pl]
 have e : l.bare = {} := by simp [Ls.bare, hn3 h3, hn6 h6, hn8 h8]
 rw [hp, e];have n8 : m.op ≠ 8 := fun h => h8 (.inl h)
 have n4 : m.op ≠ 4 := fun h => h8 (.inr h)
 by_cases h10 : m.op = 10
 ·rw [opE, if_neg h0, if_neg h2, if_neg h3, if_neg h6, if_neg h8, if_pos h10]
  simp only [oOp, El.tag, show ¬ ((10 : Int) = 2) by decide, if_true, if_false];rw [fJ]
  simp [bo, h10, Mg.pl]
 by_cases h12 : m.op = 12
 ·have hv : m.hasSup = true ∨ m.newSup = [] := by simpa [br, h12] using hk
  rw [opE, if_neg h0, if_neg h2, if_neg h3, if_neg h6, if_neg h8, if_neg h10, if_pos h12];rw [ev (by decide) (by decide) (by decide)];simp only [oDo, show ¬ ((12 : Int) = 0) by decide, show ¬ ((12 : Int) = 3) by decide, show ¬ ((12 : Int) = 6) by decide, show ¬ ((12 : Int) = 8) by decide, show ¬ ((12 : Int) = 4) by decide, if_true, if_false, gV, List.cons_append, List.nil_append];rw [cq];simp only [ai];rw [cq];simp only [ai];rw [go];simp only [ai];cases hs : m.hasSup
  ·simp only [aW, if_false]
   rw [gI _ _ rfl];have hz : m.newSup = [] := by rw [hs] at hv; simpa using hv
   simp [bN, bo, h12, Mg.pl, hs, hz]
  ·simp only [if_true]
   rw [gg]
   simp [bN, bo, h12, Mg.pl, hs]
 by_cases h14 : m.op = 14
 ·rw [opE, if_neg h0, if_neg h2, if_neg h3, if_neg h6, if_neg h8, if_neg h10, if_neg h12, if_pos h14]
  rw [ev (by decide) (by decide) (by decide)];simp only [oDo, show ¬ ((14 : Int) = 0) by decide, show ¬ ((14 : Int) = 3) by decide, show ¬ ((14 : Int) = 6) by decide, show ¬ ((14 : Int) = 8) by decide, show ¬ ((14 : Int) = 4) by decide, show ¬ ((14 : Int) = 12) by decide, if_true, if_false, eZ];rw [cq];simp only [ai];rw [jQ];simp only [ai];rw [cq];simp only [ai];rw [cq]
  simp [bN, bo, h14, Mg.pl]
 by_cases h16 : m.op = 16
 ·have hv : bB m.target 2147483647 = true := by simpa [br, h16] using hk
  have hv := ef hv;have w1 : ((m.target.toNat : Nat) : Int) = m.target := by omega
  rw [opE, if_neg h0, if_neg h2, if_neg h3, if_neg h6, if_neg h8, if_neg h10, if_neg h12, if_neg h14, if_pos h16];simp only [oOp, El.tag, show ¬ ((16 : Int) = 2) by decide, show ¬ ((16 : Int) = 10) by decide, if_true, if_false];rw [oo _ _ _ (by omega)]
  simp [bo, h16, Mg.pl, w1]
 by_cases h23 : m.op = 23
 ·have hv : m.has = true ∨ m.value = [] := by simpa [br, h23] using hk
  rw [opE, if_neg h0, if_neg h2, if_neg h3, if_neg h6, if_neg h8, if_neg h10, if_neg h12, if_neg h14, if_neg h16, if_pos h23];rw [ev (by decide) (by decide) (by decide)];simp only [oDo, show ¬ ((23 : Int) = 0) by decide, show ¬ ((23 : Int) = 3) by decide, show ¬ ((23 : Int) = 6) by decide, show ¬ ((23 : Int) = 8) by decide, show ¬ ((23 : Int) = 4) by decide, show ¬ ((23 : Int) = 12) by decide, show ¬ ((23 : Int) = 14) by decide, if_true, if_false, fI, List.cons_append, List.nil_append];rw [rX];simp only [ai];cases hs : m.has
  ·simp only [aW, if_false]
   rw [gI _ _ rfl];have hz : m.value = [] := by rw [hs] at hv; simpa using hv
   simp [bN, bo, h23, Mg.pl, hs, hz]
  ·simp only [if_true]
   rw [gg]
   simp [bN, bo, h23, Mg.pl, hs]
 have hop : opE m l = .mk 1 m.op true [] (dh m) := by rw [opE, if_neg h0, if_neg h2, if_neg h3, if_neg h6, if_neg h8, if_neg h10, if_neg h12, if_neg h14, if_neg h16, if_neg h23]
 have hdo : ∀ r, ez.contains m.op = true → oDo m.id m.op r = dI m.id m.op r := fun r hc => by
  simp only [oDo, h0, h3, h6, n8, n4, h12, h14, h23, hc, if_true, if_false]
 by_cases h24 : m.op = 24
 ·have hc : ez.contains m.op = true := by rw [h24]; rfl
  have hv : bB m.code 2147483647 = true ∧ (m.has = true ∨ m.value = []) := by simpa [br, h24] using hk
  obtain ⟨v1, v2⟩ := hv;have v1 := ef v1;have w1 : ((m.code.toNat : Nat) : Int) = m.code := by omega
  rw [hop, ev h2 h10 h16, hdo _ hc];simp only [dI, dh, List.cons_append, List.nil_append];rw [eE _ _ _ (by omega)];simp only [ai];rw [cq];simp only [ai];rw [cq];simp only [ai, h24, if_true];have hlast : ∀ o : List UInt8, (ea 11 (if m.has = true then [El.mk 2 11 false m.value []] else [])).map (fun v => (({ id := m.id, op := 24, code := ((m.code.toNat : Nat) : Int), matched := m.matched, text := m.text, oid := o, has := v.1.2, value := v.1.1 }, {}), v.2)) = some ((({ id := m.id, op := 24, code := m.code, matched := m.matched, text := m.text, oid := o, has := m.has, value := m.value } : Mg), ({} : Ls)), ([] : List El)) := by
   intro o;cases hs : m.has
   ·simp only [aW, if_false]
    rw [gI _ _ rfl];have hz : m.value = [] := by rw [hs] at v2; simpa using v2
    simp [w1, hz]
   ·simp only [if_true]
    rw [gg]
    simp [w1]
  by_cases ho : m.oid = []
  ·simp only [ho, if_true, List.nil_append]
   rw [gI _ _ (by cases m.has <;> simp [da, El.cls, El.tag])];simp only [ai, aW, false_and, if_false];rw [hlast]
   simp [bN, bo, h24, Mg.pl, ho]
  ·simp only [ho, if_false, List.cons_append, List.nil_append]
   rw [gg];simp only [ai, ho, and_false, if_false];rw [hlast]
   simp [bN, bo, h24, Mg.pl]
 ·have hc : ez.contains m.op = true := by
   cases hc : ez.contains m.op
   ·simp only [br, h0, h2, h3, h6, h8, h10, h12, h14, h16, h23, h24, hc, if_false, aW] at hk
   ·rfl
  have hv : bB m.code 2147483647 = true := by
   simp only [br, h0, h2, h3, h6, h8, h10, h12, h14, h16, h23, h24, hc, if_false, if_true] at hk;exact hk
  have v1 := ef hv;have w1 : ((m.code.toNat : Nat) : Int) = m.code := by omega
  have hb : bo m = { id := m.id, op := m.op, ctl := m.ctl, code := m.code, matched := m.matched, text := m.text } := by
   simp only [bo, h0, h3, h6, h8, h10, h12, h14, h16, h23, h24, hc, if_false, if_true]
  have ho : m.oid = [] := by have := congrArg Mg.oid hp; rw [hb] at this; exact this
  have hh : m.has = false := by have := congrArg Mg.has hp; rw [hb] at this; exact this
  rw [hop, ev h2 h10 h16, hdo _ hc];simp only [dI, dh, ho, hh, if_true, aW, if_false, List.append_nil];rw [eE _ _ _ (by omega)];simp only [ai];rw [cq];simp only [ai];rw [cq];simp only [ai, h24, if_false];rw [hb]
  simp [bN, Mg.pl, w1]
theorem qF {m : Mg} {l : Ls} (h : bH m l = true) : dU (gF m l) = some (m.pl, l) := by
 have hid := (bT h).2.1;obtain ⟨_, _, hct⟩ := lp h;have w1 : ((m.id.toNat : Nat) : Int) = m.id := by omega
 unfold dU gF;rw [ew];simp only [ai, mn, List.cons_append, List.nil_append];rw [eE _ _ _ (by omega)];simp only [ai, w1];rw [dm _ (ta h)];simp only [ai]
 by_cases hc : l.ctl = []
 ·simp [hc, rO, bN, Ls.bare]
  cases l
  simp_all
 ·simp only [hc, if_false, da, El.cls, El.tag, decide_true, Bool.and_self, if_true]
  rw [dm (x := l.ctl) [] (by rw [ew]; exact qw _ hct)]
  simp [bN, Ls.bare]
mutual
def cW : El → Nat
 | .mk _ _ _ b ks => 1 + (cd (b.length + bD ks)).length + b.length + bD ks
def bD : List El → Nat
 | [] => 0
 | e :: r => cW e + bD r
end
theorem ia {a b : Nat} (h : a ≤ b) : (cd a).length ≤ (cd b).length := by
 unfold cd
 repeat' split
 all_goals simp only [aG, aU]; omega
theorem mz (a : Nat) : 1 ≤ (cd a).length := by
 unfold cd
 repeat' split
 all_goals simp
mutual
theorem lq : ∀ e : El, bK e ≤ cW e
 | .mk c t k b ks => by
  have h := lr b.length ks;have := ia (a := min (cw b.length ks) 65537) (b := b.length + bD ks) (by omega);simp only [bK, cW]
  omega
theorem lr : ∀ (n : Nat) (l : List El), cw n l ≤ n + bD l
 | n, [] => by simp [cw, bD]
 | n, e :: r => by
  have h1 := lq e;have h2 := lr (min (n + bK e) 65537) r;simp only [cw, bD]
  omega
end
theorem iK (e : El) : 2 ≤ cW e := by
 cases e with
 | mk c t k b ks => have := mz (b.length + bD ks); simp only [cW]; omega
theorem iL : ∀ l : List El, 2 * l.length ≤ bD l
 | [] => by simp
 | e :: r => by have := iK e; have := iL r; simp only [bD, aG]; omega
mutual
theorem kC : ∀ e : El, cW e ≤ 1000000000 → SmE e
 | .mk c t k b ks, h => by
  have := iL ks;simp only [cW] at h;exact ⟨by omega, by omega, ov ks (by omega)⟩
theorem ov : ∀ l : List El, bD l ≤ 1000000000 → SmL l
 | [], _ => trivial
 | e :: r, h => by
  simp only [bD] at h;exact ⟨kC e (by omega), ov r (by omega)⟩
end
theorem tb (l : List UInt8) : dW l < 256 ^ l.length := by
 have key : ∀ (l : List UInt8) (v : Nat), l.foldl (fun v b => v * 256 + b.toNat) v < (v + 1) * 256 ^ l.length := by
  intro l
  induction l with
  | nil => intro v; simp
  | cons b r ih =>
   intro v;have h := ih (v * 256 + b.toNat);have hb := UInt8.toNat_lt b;simp only [List.foldl_cons, aG];refine Nat.lt_of_lt_of_le h ?_;rw [Nat.pow_succ, Nat.mul_comm (256 ^ r.length) 256, ← Nat.mul_assoc];exact Nat.mul_le_mul_right _ (by omega)
 have := key l 0;unfold dW
 simpa using this
theorem qG (b : List UInt8) (h : (bt b).2.2 = 0) : 1 + (cd (bt b).2.1).length ≤ (bt b).1 := by
 unfold bt at *
 split at h
 ·simp at h
 ·rename_i b0 r
  split at h
  ·simp at h
  ·rename_i h1
   simp only [h1, if_false];cases r with
   | nil => simp at h
   | cons b1 r2 =>
    simp only at h ⊢
    split
    ·rename_i h2
     simp only [cd, h2, if_true, aG, aU]
     omega
    ·rename_i h2
     simp only [h2, if_false] at h
     split
     ·rename_i h3; rw [if_pos h3] at h; simp at h
     ·rename_i h3
      simp only [h3, if_false] at h
      split
      ·rename_i h4; rw [if_pos h4] at h; simp at h
      ·rename_i h4
       simp only [h4, if_false] at h
       split
       ·rename_i h5; rw [if_pos h5] at h; simp at h
       ·rename_i h5
        have hn := tb (r2.take (b1.toNat - 128));rw [List.length_take, Nat.min_eq_left (by omega)] at hn;simp only;have hk : b1.toNat - 128 = 1 ∨ b1.toNat - 128 = 2 ∨ 3 ≤ b1.toNat - 128 := by omega
        rcases hk with hk | hk | hk
        ·rw [hk] at hn ⊢
         unfold cd
         repeat' split
         all_goals simp only [aG, aU]; omega
        ·rw [hk] at hn ⊢
         unfold cd
         repeat' split
         all_goals simp only [aG, aU]; omega
        ·unfold cd
         repeat' split
         all_goals simp only [aG, aU]; omega
theorem lu {g : List UInt8 → Except Int (El × List UInt8)} (hg : ∀ b e r, g b = .ok (e, r) → cW e + r.length ≤ b.length) : ∀ (n : Nat) (c : List UInt8) (ks : List El), cA g n c = .ok ks → bD ks ≤ c.length
 | 0, [], ks, h => by simp only [cA, Except.ok.injEq] at h; subst h; simp [bD]
 | 0, b :: t, ks, h => by simp only [cA, Except.ok.injEq] at h; subst h; simp [bD]
 | n + 1, [], ks, h => by simp only [cA, Except.ok.injEq] at h; subst h; simp [bD]
 | n + 1, b :: t, ks, h => by
  unfold cA at h;cases hr : g (b :: t) with
  | error e => rw [hr] at h; cases h
  | ok p =>
   obtain ⟨k, c⟩ := p;rw [hr] at h;simp only at h;cases hk : cA g n c with
   | error e => rw [hk] at h; cases h
   | ok ks2 =>
    rw [hk] at h;simp only [Except.ok.injEq] at h;subst h;have h1 := hg _ _ _ hr;have h2 := lu hg n c ks2 hk;simp only [bD]
    omega
theorem fL : ∀ (k : Nat) (b : List UInt8) (e : El) (r : List UInt8), bP k b = .ok (e, r) → cW e + r.length ≤ b.length ∧ cW e ≤ 65536
 | 0, b, e, r, h => by
  unfold bP at h
  split at h <;> cases h
 | k + 1, b, e, r, h => by
  unfold bP at h
  by_cases h0 : (bt b).2.2 = 0
  ·have h2 := qG b h0
   have h4 := jL b;rw [if_pos h0] at h
   by_cases h1 : b.length < (bt b).1 + (bt b).2.1
   ·rw [if_pos h1] at h; cases h
   ·rw [if_neg h1] at h
    have hbl : ((b.drop (bt b).1).take (bt b).2.1).length = (bt b).2.1 := by rw [List.length_take, List.length_drop]; omega
    by_cases h3 : (b.headD 0).toNat / 32 % 2 = 0
    ·rw [if_pos h3] at h
     cases h;simp only [cW, bD, hbl, List.length_drop, Nat.add_zero]
     omega
    ·rw [if_neg h3] at h
     cases hk : cA (bP k) ((b.drop (bt b).1).take (bt b).2.1).length ((b.drop (bt b).1).take (bt b).2.1) with
     | error e => rw [hk] at h; cases h
     | ok ks =>
      rw [hk] at h;cases h;have hr := lu (fun b e r h => (fL k b e r h).1) _ _ _ hk;rw [hbl] at hr;have hm := ia (a := bD ks) hr;simp only [cW, aU, List.length_drop, Nat.zero_add]
      omega
  ·rw [if_neg h0] at h; cases h
theorem mA {g : List UInt8 → Except Int (El × List UInt8)} {k : Nat} (hg : ∀ b e r, g b = .ok (e, r) → okE k e = true) : ∀ (n : Nat) (c : List UInt8) (ks : List El), cA g n c = .ok ks → okL k ks = true
 | 0, [], ks, h => by simp only [cA, Except.ok.injEq] at h; subst h; simp [okL]
 | 0, b :: t, ks, h => by simp only [cA, Except.ok.injEq] at h; subst h; simp [okL]
 | n + 1, [], ks, h => by simp only [cA, Except.ok.injEq] at h; subst h; simp [okL]
 | n + 1, b :: t, ks, h => by
  unfold cA at h;cases hr : g (b :: t) with
  | error e => rw [hr] at h; cases h
  | ok p =>
   obtain ⟨e, c⟩ := p;rw [hr] at h;simp only at h;cases hk : cA g n c with
   | error e => rw [hk] at h; cases h
   | ok ks2 =>
    rw [hk] at h;simp only [Except.ok.injEq] at h;subst h;simp only [okL, hg _ _ _ hr, mA hg n c ks2 hk, Bool.and_self]
theorem qH (b : List UInt8) (h : (bt b).2.2 = 0) : (b.headD 0).toNat % 32 ≤ 30 := by
 unfold bt at h
 split at h
 ·simp at h
 ·rename_i b0 r
  split at h
  ·simp at h
  ·show b0.toNat % 32 ≤ 30
   omega
theorem mB : ∀ (k : Nat) (b : List UInt8) (e : El) (r : List UInt8), bP k b = .ok (e, r) → okE k e = true
 | 0, b, e, r, h => by
  unfold bP at h
  split at h <;> cases h
 | k + 1, b, e, r, h => by
  unfold bP at h
  by_cases h0 : (bt b).2.2 = 0
  ·have h2 := qH b h0
   have h4 := UInt8.toNat_lt (b.headD 0);rw [if_pos h0] at h
   by_cases h1 : b.length < (bt b).1 + (bt b).2.1
   ·rw [if_pos h1] at h; cases h
   ·rw [if_neg h1] at h
    by_cases h3 : (b.headD 0).toNat / 32 % 2 = 0
    ·rw [if_pos h3] at h
     cases h;simp only [okE, okL, aI, aT, aW, if_false, decide_true, and_true]
     omega
    ·rw [if_neg h3] at h
     cases hk : cA (bP k) ((b.drop (bt b).1).take (bt b).2.1).length ((b.drop (bt b).1).take (bt b).2.1) with
     | error e => rw [hk] at h; cases h
     | ok ks =>
      rw [hk] at h;cases h;have hr := mA (fun b e r h => mB k b e r h) _ _ _ hk;simp only [okE, hr, aI, aT, if_true, decide_true, and_true]
      omega
  ·rw [if_neg h0] at h; cases h
/- The way back: what stands well can be written. -/
mutual
theorem jR (p : El → Bool) (hp : ∀ d c t k b ks, okE d (.mk c t k b ks) = true → p (.mk c t k b ks) = true) : ∀ (e : El) (d f : Nat), okE f e = true → dM p d e = true
 | .mk c t k b ks, d, f, h => by
  simp only [dM]
  split
  ·rfl
  ·rw [hp f c t k b ks h]
   cases f with
   | zero => simp [okE] at h
   | succ f =>
    simp only [okE, aI] at h;rw [mC p hp ks (d + 1) f h.2]
    rfl
theorem mC (p : El → Bool) (hp : ∀ d c t k b ks, okE d (.mk c t k b ks) = true → p (.mk c t k b ks) = true) : ∀ (l : List El) (d f : Nat), okL f l = true → dS p d l = true
 | [], d, f, _ => by simp [dS]
 | e :: r, d, f, h => by
  simp only [okL, aI] at h;simp only [dS, jR p hp e d f h.1, mC p hp r d f h.2, Bool.and_self]
end
mutual
theorem mD : ∀ (e : El) (d f : Nat), f + d = 20 → okE f e = true → eW d e = false
 | .mk c t k b ks, d, f, hf, h => by
  cases f with
  | zero => simp [okE] at h
  | succ f =>
   simp only [okE, aI] at h;simp only [eW];rw [if_neg (by omega)];exact mE ks (d + 1) f (by omega) h.2
theorem mE : ∀ (l : List El) (d f : Nat), f + d = 20 → okL f l = true → eX d l = false
 | [], d, f, _, _ => by simp [eX]
 | e :: r, d, f, hf, h => by
  simp only [okL, aI] at h;simp only [eX, mD e d f hf h.1, mE r d f hf h.2, Bool.or_self]
end
theorem qI {e : El} (h : okE 20 e = true) (hs : cW e ≤ 65536) : dD e = (eJ e, 0) := by
 have h1 := lq e;have h2 : dM cn 0 e = true := jR cn (fun d c t k b ks h => by
  cases d with
  | zero => simp [okE] at h
  | succ d =>
   simp only [okE, aI] at h;simp only [cn, aI];exact h.1.1) e 0 20 h
 have h3 : dM cB 0 e = true := jR cB (fun d c t k b ks h => by
  cases d with
  | zero => simp [okE] at h
  | succ d =>
   simp only [okE, aI] at h;exact h.1.2) e 0 20 h
 have h4 := mD e 0 20 rfl h;unfold dD;rw [h2, h3, h4, if_neg (by simp), if_neg (by simp), if_neg (by simp), if_neg (by omega)]
def Le (a b : El) : Prop := cW a ≤ cW b ∧ ∀ d, okE d b = true → okE d a = true
def LL (a b : List El) : Prop := bD a ≤ bD b ∧ ∀ d, okL d b = true → okL d a = true
theorem LL.nil (b : List El) : LL [] b := ⟨by simp [bD], fun _ _ => by simp [okL]⟩
theorem LL.cons {a b : El} {r s : List El} (h : Le a b) (k : LL r s) : LL (a :: r) (b :: s) := by
 refine ⟨?_, fun d hd => ?_⟩
 ·have := h.1; have := k.1; simp only [bD]; omega
 ·simp only [okL, aI] at hd ⊢
  exact ⟨h.2 d hd.1, k.2 d hd.2⟩
theorem LL.drop {b : El} {r s : List El} (k : LL r s) : LL r (b :: s) := by
 refine ⟨?_, fun d hd => ?_⟩
 ·have := k.1; simp only [bD]; omega
 ·simp only [okL, aI] at hd
  exact k.2 d hd.2
theorem Le.prim {c t : Int} {b s : List UInt8} {ks : List El} (h : s.length ≤ b.length) : Le (.mk c t false s []) (.mk c t false b ks) := by
 refine ⟨?_, fun d hd => ?_⟩
 ·have := ia (a := s.length + bD []) (b := b.length + bD ks) (by simp only [bD]; omega)
  simp only [cW, bD] at this ⊢
  omega
 ·cases d with
  | zero => simp [okE] at hd
  | succ d =>
   simp only [okE, okL, aI, aT, aW, if_false] at hd ⊢;exact ⟨⟨hd.1.1, trivial⟩, trivial⟩
theorem Le.cons' {c t : Int} {b : List UInt8} {ks ks' : List El} (h : LL ks' ks) : Le (.mk c t true [] ks') (.mk c t true b ks) := by
 refine ⟨?_, fun d hd => ?_⟩
 ·have h1 := h.1
  have := ia (a := 0 + bD ks') (b := b.length + bD ks) (by omega);simp only [cW, aU] at this ⊢
  omega
 ·cases d with
  | zero => simp [okE] at hd
  | succ d =>
   simp only [okE, aI, aT, if_true] at hd ⊢;exact ⟨⟨hd.1.1, trivial⟩, h.2 d hd.2⟩
theorem jj {e : El} {c t : Int} {k : Bool} (h : isE e c t k = true) : e = .mk c t k e.bytes e.kids := by
 cases e with
 | mk c' t' k' b ks =>
  simp only [isE, El.cls, El.tag, El.cons, aI, beq_iff_eq] at h;obtain ⟨⟨h1, h2⟩, h3⟩ := h;have h1 := of_decide_eq_true h1;have h2 := of_decide_eq_true h2;subst h1 h2 h3
  rfl
theorem Le.txt {e : El} {c t : Int} {s : List UInt8} (h : dK e c t = some s) : Le (.mk c t false s []) e := by
 unfold dK at h
 split at h
 ·rename_i hi
  cases h;rw [jj hi];exact Le.prim (ah _)
 ·cases h
theorem Le.kid {e : El} {c t : Int} {ks ks' : List El} (h : ci e c t = some ks) (k : LL ks' ks) : Le (.mk c t true [] ks') e := by
 unfold ci at h
 split at h
 ·rename_i hi
  cases h;rw [jj hi];exact Le.cons' k
 ·cases h
theorem qJ : ∀ (r : List UInt8) (v : Int), r.length ≤ 3 → -128 ≤ v → v < 128 → v * 256 ^ r.length ≤ r.foldl dZ v ∧ r.foldl dZ v < (v + 1) * 256 ^ r.length
 | [], v, _, _, _ => by simp; omega
 | [b], v, _, _, _ => by
  have hb := UInt8.toNat_lt b;simp only [List.foldl_cons, List.foldl_nil, aG, aU, dZ];rw [aK]
  omega
 | [b, c], v, _, _, _ => by
  have hb := UInt8.toNat_lt b;have hc := UInt8.toNat_lt c;simp only [List.foldl_cons, List.foldl_nil, aG, aU, dZ];simp only [aK]
  omega
 | [b, c, d], v, _, _, _ => by
  have hb := UInt8.toNat_lt b;have hc := UInt8.toNat_lt c;have hd := UInt8.toNat_lt d;simp only [List.foldl_cons, List.foldl_nil, aG, aU, dZ];simp only [aK]
  omega
 | _ :: _ :: _ :: _ :: _, _, h, _, _ => by simp at h
theorem tL {b : List UInt8} (h1 : 1 ≤ b.length) (h0 : 0 ≤ sgI b) : (sgB (sgI b).toNat).length ≤ b.length := by
 have h4 := (eg (sgI b).toNat).2;cases b with
 | nil => simp at h1
 | cons x r =>
  simp only [aG]
  by_cases hr : 3 ≤ r.length
  ·omega
  ·have hx := UInt8.toNat_lt x
   have hv : sgI (x :: r) < 128 * 256 ^ r.length := by
    show r.foldl dZ (if x.toNat < 128 then (x.toNat : Int) else (x.toNat : Int) - 256) < _
    split
    ·have := (qJ r (x.toNat : Int) (by omega) (by omega) (by omega)).2
     refine Int.lt_of_lt_of_le this ?_;exact Int.mul_le_mul_of_nonneg_right (by omega) (Int.le_of_lt (Int.pow_pos (by decide)))
    ·have := (qJ r ((x.toNat : Int) - 256) (by omega) (by omega) (by omega)).2
     refine Int.lt_of_lt_of_le this ?_;exact Int.mul_le_mul_of_nonneg_right (by omega) (Int.le_of_lt (Int.pow_pos (by decide)))
   have hk : r.length = 0 ∨ r.length = 1 ∨ r.length = 2 := by omega
   rcases hk with hk | hk | hk
   all_goals
    rw [hk] at hv ⊢;simp only [Int.pow_succ, Int.pow_zero] at hv;unfold sgB
    repeat' split
    all_goals simp only [aG, aU]; omega
theorem Le.int {e : El} {c t n : Int} (h : fW e c t = some n) (h0 : 0 ≤ n) : Le (.mk c t false (sgB n.toNat) []) e := by
 unfold fW at h
 split at h
 ·rename_i hi
  cases h;unfold fs at hi h0 ⊢
  by_cases hc : (isE e c t false && decide (1 ≤ e.bytes.length ∧ e.bytes.length ≤ 8)) = true
  ·rw [if_pos hc] at h0 ⊢
   simp only [aI, aT] at hc;have hb := tL hc.2.1 h0;have he := jj hc.1;generalize e.bytes = b at *;rw [he];exact Le.prim hb
  ·rw [if_neg hc] at hi
   exact absurd hi (by decide)
 ·cases h
theorem Le.bool {e : El} {b : Bool} (h : gT e = some b) (x : Bool) : Le (.mk 0 1 false (blB x) []) e := by
 unfold gT at h
 split at h
 ·rename_i hi
  simp only [aI, aT] at hi;rw [jj hi.1];refine Le.prim ?_;rw [hi.2];cases x <;> simp [blB]
 ·cases h
theorem LL.get {α : Type} {g : El → Option α} {l : List El} {y : α × List El} {F : El} {r : List El} (h : bS g l = some y) (hg : ∀ e, g e = some y.1 → Le F e) (k : LL r y.2) : LL (F :: r) l := by
 cases l with
 | nil => simp [bS, ch] at h
 | cons e t =>
  simp only [bS, ch, ai, aC] at h;obtain ⟨a, ha, rfl⟩ := h;exact LL.cons (hg e ha) k
theorem LL.skip {α : Type} {g : El → Option α} {l : List El} {y : α × List El} {r : List El} (h : bS g l = some y) (k : LL r y.2) : LL r l := by
 cases l with
 | nil => simp [bS, ch] at h
 | cons e t =>
  simp only [bS, ch, ai, aC] at h;obtain ⟨a, ha, rfl⟩ := h;exact LL.drop k
theorem LL.str {l : List El} {y : List UInt8 × List El} {r : List El} (h : cg l = some y) (k : LL r y.2) : LL (.mk 0 4 false y.1 [] :: r) l := LL.get h (fun _ he => Le.txt he) k
theorem LL.num {t : Int} {l : List El} {y : Int × List El} {r : List El} (h : em t l = some y) (h0 : 0 ≤ y.1) (k : LL r y.2) : LL (.mk 0 t false (sgB y.1.toNat) [] :: r) l := LL.get h (fun _ he => Le.int he h0) k
theorem LL.flag {l : List El} {y : Bool × List El} {r : List El} (h : fm l = some y) (x : Bool) (k : LL r y.2) : LL (.mk 0 1 false (blB x) [] :: r) l := LL.get h (fun _ he => Le.bool he x) k
theorem LL.opt {t : Int} {l : List El} {y : (List UInt8 × Bool) × List El} {r : List El} (h : ea t l = some y) (k : LL r y.2) : LL ((if y.1.2 then [.mk 2 t false y.1.1 []] else []) ++ r) l := by
 unfold ea at h
 split at h
 ·simp only [aC] at h
  obtain ⟨x, hx, rfl⟩ := h;exact LL.get hx (fun _ he => Le.txt he) k
 ·cases h
  exact k
theorem bY {α : Type} {x y : α} {l : List El} (h : bN x l = some y) : x = y ∧ l = [] := by
 unfold bN at h
 split at h
 ·cases h
  exact ⟨rfl, by assumption⟩
 ·cases h
theorem LL.strs : ∀ {l : List El} {ss : List (List UInt8)}, dN l = some ss → LL (ss.map cP) l
 | [], ss, h => by simp only [dN, Option.some.injEq] at h; subst h; exact LL.nil _
 | e :: r, ss, h => by
  simp only [dN, ax, aC] at h;obtain ⟨s, h1, t, h2, rfl⟩ := h;exact LL.cons (Le.txt h1) (LL.strs h2)
theorem Le.attr {e : El} {x : List UInt8 × List (List UInt8)} (h : dO e = some x) : Le (bI x) e := by
 simp only [dO, ax] at h;obtain ⟨ks, h1, a, h2, b, h3, vs, h4, h5⟩ := h;obtain ⟨rfl, _⟩ := bY h5;exact Le.kid h1 (LL.str h2 (LL.get h3 (fun _ he => Le.kid he (LL.strs h4)) (LL.nil _)))
theorem LL.all {α : Type} {g : El → Option α} {f : α → El} : ∀ {l : List El} {xs : List α}, dC g l = some xs → (∀ x ∈ xs, ∀ e, g e = some x → Le (f x) e) → LL (xs.map f) l
 | [], xs, h, _ => by simp only [dC, Option.some.injEq] at h; subst h; exact LL.nil _
 | e :: r, xs, h, k => by
  simp only [dC, ax, aC] at h;obtain ⟨x, h1, t, h2, rfl⟩ := h;exact LL.cons (k x (by simp) e h1) (LL.all h2 fun y hy => k y (by simp [hy]))
theorem Le.mod {e : El} {x : Md} (h : ft e = some x) (h0 : 0 ≤ x.1) : Le (du (x.1.toNat, x.2)) e := by
 simp only [ft, ax] at h;obtain ⟨ks, h1, n, h2, a, h3, h5⟩ := h;obtain ⟨rfl, _⟩ := bY h5;exact Le.kid h1 (LL.num h2 h0 (LL.get h3 (fun _ he => Le.attr he) (LL.nil _)))
theorem Le.ctl {e : El} {c : Ct} (h : eR e = some c) : Le (ei c) e := by
 simp only [eR, ax] at h;obtain ⟨ks, h1, o, h2, b, h3, v, h4, h5⟩ := h;obtain ⟨rfl, _⟩ := bY h5;refine Le.kid h1 ?_;show LL (.mk 0 4 false o.1 [] :: (eQ _ ++ fP _)) ks;refine LL.str h2 ?_;have hv : LL (fP ⟨o.1, b.1, v.1.2, v.1.1⟩) b.2 := by
  split at h4
  ·cases h4
   exact LL.nil _
  ·simp only [aC] at h4
   obtain ⟨s, hs, rfl⟩ := h4;exact LL.str hs (LL.nil _)
 split at h3
 ·unfold eQ
  cases b.1 with
  | true => exact LL.flag h3 true hv
  | false => exact LL.skip h3 hv
 ·cases h3
  exact hv
/- Filters. -/
theorem LL.piece {t : Int} {l : List El} {y : List UInt8 × List El} {r : List El} (h : df t l = some y) (k : LL r y.2) : LL (.mk 2 t false y.1 [] :: r) l := by
 simp only [df, ax] at h;obtain ⟨s, h1, h2⟩ := h
 split at h2
 ·cases h2
 ·cases h2
  exact LL.get h1 (fun _ he => Le.txt he) k
theorem LL.anys : ∀ {n : Nat} {l : List El} {y : List (List UInt8) × List El} {r : List El}, dT n l = some y → LL r y.2 → LL (y.1.map (fun s => .mk 2 1 false s []) ++ r) l
 | 0, l, y, r, h, k => by simp only [dT, Option.some.injEq] at h; subst h; exact k
 | n + 1, l, y, r, h, k => by
  simp only [dT] at h
  split at h
  ·simp only [ax, aC] at h
   obtain ⟨s, h1, x, h2, rfl⟩ := h;exact LL.piece h1 (LL.anys h2 k)
  ·cases h
   exact k
theorem LL.part {t : Int} {l : List El} {y : List UInt8 × List El} {r : List El} (h : (if da 2 t l then df t l else some ([], l)) = some y) (k : LL r y.2) : LL ((if y.1 = [] then [] else [.mk 2 t false y.1 []]) ++ r) l := by
 split at h
 ·split
  ·simp only [df, ax] at h
   obtain ⟨s, h1, h2⟩ := h
   split at h2
   ·cases h2
   ·cases h2
    exact LL.skip h1 k
  ·exact LL.piece h k
 ·cases h
  exact k
theorem LL.pieces {l : List El} {x : List UInt8 × List (List UInt8) × List UInt8} (h : eC l = some x) (o n : Int) (t v : List UInt8) : LL (bL ⟨o, n, t, v, x.1, x.2.2, x.2.1⟩) l := by
 simp only [eC, ax] at h;obtain ⟨i, h1, a, h2, f, h3, h5⟩ := h;obtain ⟨rfl, _⟩ := bY h5;simp only [bL];rw [List.append_assoc];refine LL.part h1 (LL.anys h2 ?_);have := LL.part (r := []) h3 (LL.nil _)
 rwa [List.append_nil] at this
theorem pk {c t : Int} {k : Bool} {b : List UInt8} {ks : List El} {f : List Fl} (h : dA (.mk c t k b ks) = some f) (h2 : ¬ (t = 0 ∨ t = 1 ∨ t = 2)) : ∃ p, f = [p] ∧ p.op = t ∧ p.n = 0 ∧ Le (er p) (.mk c t k b ks) := by
 simp only [dA, h2, if_false] at h
 split at h
 ·rename_i h7
  subst h7;simp only [aC] at h;obtain ⟨s, h1, rfl⟩ := h;exact ⟨_, rfl, rfl, rfl, Le.txt h1⟩
 ·rename_i h7
  split at h
  ·rename_i h4
   subst h4;simp only [ax] at h;obtain ⟨r, h1, a, h3, p, h4, x, h5, h6⟩ := h;obtain ⟨rfl, _⟩ := bY h6;refine ⟨_, rfl, rfl, rfl, ?_⟩;simp only [er, show ¬ ((4 : Int) = 7) by decide, if_false, if_true, cj];exact Le.kid h1 (LL.str h3 (LL.get h4 (fun _ he => Le.kid he (LL.pieces h5 _ _ _ _)) (LL.nil _)))
  ·rename_i h4
   simp only [ax] at h;obtain ⟨r, h1, a, h3, v, h5, h6⟩ := h;obtain ⟨rfl, _⟩ := bY h6;refine ⟨_, rfl, rfl, rfl, ?_⟩;simp only [er, h7, h4, if_false, cj];exact Le.kid h1 (LL.str h3 (LL.str h5 (LL.nil _)))
mutual
theorem qK : ∀ (el : El) (f : List Fl), dA el = some f → ∀ k r r', bG k (f ++ r) = some r' → r' = r ∧ (cD k (f ++ r)).2 = r ∧ Le (cD k (f ++ r)).1 el
 | .mk c t k b ks, f, h, d, r, r', hw => by
  cases d with
  | zero => simp [bG] at hw
  | succ d =>
   by_cases h2 : t = 0 ∨ t = 1 ∨ t = 2
   ·simp only [dA, h2, if_true] at h
    split at h
    ·rename_i hi
     simp only [aC] at h;obtain ⟨g, hg, rfl⟩ := h;simp only [List.cons_append, bG] at hw
     split at hw
     ·simp only [Int.toNat_natCast] at hw
      obtain ⟨e1, e2, e3⟩ := ow ks g hg d r r' hw;simp only [List.cons_append, cD, h2, if_true, Int.toNat_natCast];refine ⟨e1, e2, ?_⟩;have := jj hi;simp only [El.bytes, El.kids] at this;rw [this];exact Le.cons' e3
     ·cases hw
    ·cases h
   ·obtain ⟨p, rfl, ho, hn, hle⟩ := pk h h2
    simp only [List.cons_append, List.nil_append, bG, hn] at hw
    split at hw
    ·simp only [Int.toNat_zero, cV, Option.some.injEq] at hw
     subst hw;simp only [List.cons_append, List.nil_append, cD, ho, h2, if_false];exact ⟨trivial, trivial, hle⟩
    ·cases hw
theorem ow : ∀ (ks : List El) (f : List Fl), en ks = some f → ∀ k r r', cV (bG k) ks.length (f ++ r) = some r' → r' = r ∧ (cT (cD k) ks.length (f ++ r)).2 = r ∧ LL (cT (cD k) ks.length (f ++ r)).1 ks
 | [], f, h, k, r, r', hw => by
  simp only [en, Option.some.injEq] at h;subst h;simp only [aU, List.nil_append, cV, Option.some.injEq] at hw;subst hw;exact ⟨rfl, rfl, LL.nil _⟩
 | e :: s, f, h, k, r, r', hw => by
  simp only [en, ax, aC] at h;obtain ⟨a, ha, g, hg, rfl⟩ := h;simp only [aG, cV] at hw;cases hq : bG k (a ++ g ++ r) with
  | none => rw [hq] at hw; cases hw
  | some q =>
   rw [hq] at hw;rw [List.append_assoc] at hq;obtain ⟨e1, e2, e3⟩ := qK e a ha k (g ++ r) q hq;subst e1;obtain ⟨e4, e5, e6⟩ := ow s g hg k r r' hw;simp only [aG, cT];rw [List.append_assoc, e2];exact ⟨e4, e5, LL.cons e3 e6⟩
end
theorem rY {el : El} {f : List Fl} (h : dA el = some f) (hv : dz f = true) : Le (cD 20 f).1 el := by
 simp only [dz, aI, aT] at hv;obtain ⟨_, hv⟩ := hv;cases hw : bG 20 f with
 | none => rw [hw] at hv; cases hv
 | some r =>
  have := (qK el f h 20 [] r (by rw [List.append_nil]; exact hw)).2.2
  rwa [List.append_nil] at this
theorem sy {m : Mg} {l : Ls} (hk : LsOk m l) (hv : bH m l = true) : SmE (opE m l) := by
 obtain ⟨hkb, _, _⟩ := bT hv;have d1 := hk.dn;have d2 := hk.secret;have d3 := hk.newRdn;have d4 := hk.newSup;have d5 := hk.typ;have d6 := hk.value;have d7 := hk.oid;have d8 : (blB m.delOld).length = 1 := by cases m.delOld <;> rfl
 by_cases h0 : m.op = 0
 ·have h1 := (eg m.ver.toNat).2
  simp only [opE, h0, if_true, ip]
  split <;> simp [SmE, SmL] <;> omega
 by_cases h2 : m.op = 2
 ·simp [opE, h2, SmE, SmL]
 by_cases h3 : m.op = 3
 ·have hkb2 : (bB m.scope 2 && bB m.deref 3 && bB m.size 2147483647 && bB m.time 2147483647 && dz l.filt) = true := by simpa [br, h3] using hkb
  simp only [aI, bB, aT, dz] at hkb2;obtain ⟨⟨⟨⟨h1, h2⟩, h3'⟩, h4⟩, h5, h6⟩ := hkb2;have hw : bG 20 l.filt = some [] := by
   split at h6
   ·assumption
   ·cases h6
  have e : opE m l = .mk 1 3 true [] (cY m.dn m.scope.toNat m.deref.toNat m.size.toNat m.time.toNat m.types (cD 20 l.filt).1 l.sel) := by simp [opE, h3]
  rw [e];simp only [SmE];exact ⟨by simp, by simp [cY], jv _ _ _ _ _ _ _ _ (by omega) (jr 20 l.filt [] (fun p hp => (hk.filt.2 p hp).1) h5 hw) hk.sels (by have := hk.sel; omega)⟩
 by_cases h6 : m.op = 6
 ·have hr : l.mods.all (fun x => bB x.1 2) = true := by simpa [br, h6] using hkb
  have hs := mg hk hr;have e : opE m l = .mk 1 6 true [] [.mk 0 4 false m.dn [], .mk 0 16 true [] ((dR l.mods).map du)] := by simp [opE, h6]
  rw [e];simp only [SmE, SmL] at hs ⊢
  simp at hs ⊢
  exact ⟨by omega, hs⟩
 by_cases h8 : m.op = 8 ∨ m.op = 4
 ·have hs := i9 hk
  have e : opE m l = .mk 1 m.op true [] [.mk 0 4 false m.dn [], .mk 0 16 true [] (l.attrs.map bI)] := by simp only [opE, h0, h2, h3, h6, h8, if_true, if_false]
  rw [e];simp only [SmE, SmL] at hs ⊢
  simp at hs ⊢
  exact ⟨by omega, hs⟩
 by_cases h10 : m.op = 10
 ·simp [opE, h10, SmE, SmL]; omega
 by_cases h12 : m.op = 12
 ·simp only [opE, h12]
  simp
  split <;> simp [SmE, SmL] <;> omega
 by_cases h14 : m.op = 14
 ·simp [opE, h14, SmE, SmL]; omega
 by_cases h16 : m.op = 16
 ·have h1 := (eg m.target.toNat).2
  simp [opE, h16, SmE, SmL]; omega
 by_cases h23 : m.op = 23
 ·simp only [opE, h23]
  simp
  split <;> simp [SmE, SmL] <;> omega
 have hn : m.op ∉ ([0, 2, 3, 6, 8, 4, 10, 12, 14, 16, 23] : List Int) := by
  simp only [aY, aZ, or_false, not_or] at h8 ⊢;exact ⟨h0, h2, h3, h6, h8.1, h8.2, h10, h12, h14, h16, h23⟩
 obtain ⟨hc0, hc1⟩ := lg hkb hn;obtain ⟨hs1, hs2⟩ := kY hk (by omega);have e : opE m l = .mk 1 m.op true [] (dh m) := by simp only [opE, h0, h2, h3, h6, h8, h10, h12, h14, h16, h23, if_false]
 rw [e];simp only [SmE];exact ⟨by simp, by omega, hs1⟩
theorem tM {m : Mg} {l : Ls} (hk : LsOk m l) (hv : bH m l = true) : SmE (gF m l) := by
 have h1 := sy hk hv;have h2 := (eg m.id.toNat).2;have h3 := kO l.ctl hk.ctls;have h4 := hk.ctl;unfold gF mn;simp only [SmE];refine ⟨by simp, by split <;> simp, gk _ _ ?_ ?_⟩
 ·simp only [SmL]
  exact ⟨by simp [SmE, SmL]; omega, h1, trivial⟩
 ·split
  ·trivial
  ·simp only [SmL, SmE, List.length_map]
   exact ⟨⟨by simp, by omega, h3⟩, trivial⟩
def cR (m : Mg) (l : Ls) : List UInt8 × Int := if bH m l then dD (gF m l) else ([], 70)
theorem qL (A : Array Value) (hsz : A.size = 28) (w : World)
  (hval : ∀ w', Below w.heap.size w w' → Calls Tryz.prog 14 #[.agg A] w' fun e w'' => e = .returned (Bf) ∧ Below w'.heap.size w' w'') :
  Cr 12 #[.agg A] w (.tuple #[Es, .int .i64 70]) := by
 have b1 := alb w A 28;have m1 := alz w A 28;have HS := hid hsz;have kv := hval _ b1;clear hsz hval
 go_enter Tryz.func12, Tryz.ntmps12
 go_upto_region 1 with fail
 generalize w.alloc (.cells A 28) = w1 at b1 m1 kv ⊢
 go_wp2_with (refine bg rfl 28 (.tmp 1) rfl w.heap.size 28 _ (0, 0) (by rfl) m1 _ Tryz.underlying28 rfl (by rw [HS.out]; rfl) ?_)
 refine ag kv ?_;rintro e w2 ⟨rfl, hb2⟩;have b2 := b1.trans (hb2.mono b1.size);clear kv hb2 b1 m1
 go_wp2_with fail
 go_ret2
 exact ⟨rfl, b2⟩
theorem fa (m : Mg) (l : Ls) (w : World) (hm : MgM w m l) (hk : LsOk m l) (hE : Env w) :
  Cr 12 #[.agg m.row] w (.tuple #[.string ⟨(cR m l).1.toArray⟩, .int .i64 (cR m l).2]) := by
 have kv : ∀ w', Below w.heap.size w w' → Calls Tryz.prog 14 #[.agg m.row] w' fun e w'' => e = .returned (.bool (bH m l)) ∧ Below w'.heap.size w' w'' := fun w' hb =>
  gR m l w' (hm.below hb) (by have := hk.mods; omega) (by have := hk.ctl; omega) (fun _ w2 hb2 => gu l.filt m.filt w2 ((hm.filt.below hb).below hb2) hk.filt ((hE.below hb).below hb2))
 unfold cR;cases hv : bH m l with
 | false =>
  rw [hv] at kv;exact qL m.row rfl w kv
 | true =>
  rw [hv] at kv;have hid := (bT hv).2.1;exact sp 65537 pC m.row rfl (gF m l) (tM hk hv) (fV _) w kv (fun w' hb => ns m l w' (hm.below hb) hk hid (opE m l) (sy hk hv) (fun w2 hb2 => tK m l w2 ((hm.below hb).below hb2) hk hv) (mn m l) rfl)
end Go.Proofs.YthjaiigijbjloaaGreatDoor
