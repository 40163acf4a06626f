/- PlainBk, ReH. -/
import Derived.Test.YthjaiigijbjloaaGreatDoorT17
namespace Go.Proofs.YthjaiigijbjloaaGreatDoor
open Go.RowKit Go.Lib
set_option maxRecDepth 100000
set_option maxHeartbeats 16000000
theorem fJ (c t : Int) (s : List UInt8) (ks : List El) : dK (.mk c t false s ks) c t = some s := by simp [dK, isE, El.cls, El.tag, El.cons, El.bytes]
theorem ew (c t : Int) (s : List UInt8) (ks : List El) : ci (.mk c t true s ks) c t = some ks := by simp [ci, isE, El.cls, El.tag, El.cons, El.kids]
theorem oo (c t : Int) (n : Nat) (h : n ≤ 2147483647) : fW (.mk c t false (sgB n) []) c t = some (n : Int) := by
 obtain ⟨h1, h2, h3⟩ := sW n h
 simp [fW, fs, isE, El.cls, El.tag, El.cons, El.bytes, h1, h2, h3]
theorem rN (b : Bool) : gT (.mk 0 1 false (blB b) []) = some b := by cases b <;> simp [gT, isE, El.cls, El.tag, El.cons, El.bytes, blB]
theorem dm {α : Type} {g : El → Option α} {e : El} {x : α} (r : List El) (h : g e = some x) : bS g (e :: r) = some (x, r) := by simp [bS, ch, h]
theorem cq (s : List UInt8) (r : List El) : cg (.mk 0 4 false s [] :: r) = some (s, r) := dm r (fJ 0 4 s [])
theorem eE (t : Int) (n : Nat) (r : List El) (h : n ≤ 2147483647) : em t (.mk 0 t false (sgB n) [] :: r) = some ((n : Int), r) := dm r (oo 0 t n h)
theorem go (b : Bool) (r : List El) : fm (.mk 0 1 false (blB b) [] :: r) = some (b, r) := dm r (rN b)
theorem gg (t : Int) (s : List UInt8) (r : List El) : ea t (.mk 2 t false s [] :: r) = some ((s, true), r) := by
 simp [ea, da, El.cls, El.tag, dm (g := fun e => dK e 2 t) r (fJ 2 t s [])]
theorem gI (t : Int) (l : List El) (h : da 2 t l = false) : ea t l = some (([], false), l) := by simp [ea, h]
theorem li (l : List (List UInt8)) : dN (l.map cP) = some l := by
 induction l with
 | nil => rfl
 | cons s r ih => simp [dN, cP, fJ] at ih ⊢; simp [ih]
theorem jH (x : List UInt8 × List (List UInt8)) : dO (bI x) = some x := by
 simp only [dO, bI, ew, ai];rw [cP, cq];simp only [ai];rw [dm (g := fun e => ci e 0 17) [] (ew 0 17 [] _)]
 simp [li, bN]
theorem jN {α β : Type} {g : El → Option β} {f : α → El} {k : α → β} (l : List α) (h : ∀ x ∈ l, g (f x) = some (k x)) : dC g (l.map f) = some (l.map k) := by
 induction l with
 | nil => rfl
 | cons x r ih => simp [dC, h x (by simp), ih fun y hy => h y (by simp [hy])]
theorem qq (x : Mo) (h : x.1 ≤ 2147483647) : ft (du x) = some ((x.1 : Int), x.2) := by
 simp only [ft, du, ew, ai];rw [eE _ _ _ h];simp only [ai];rw [dm [] (jH x.2)]
 simp [bN]
theorem qr (ml : List Md) (h : ml.all (fun x => bB x.1 2) = true) : dC ft ((dR ml).map du) = some ml := by
 rw [jN (k := fun x => ((x.1 : Int), x.2)) (dR ml) (fun x hx => ?_)]
 ·simp only [dR, List.map_map, Option.some.injEq]
  conv => rhs; rw [← List.map_id ml]
  refine List.map_congr_left fun x hx => ?_
  have := gD h hx;simp only [Function.comp, id];exact Prod.ext (by simp; omega) rfl
 ·simp only [dR, List.mem_map] at hx
  obtain ⟨y, hy, rfl⟩ := hx;have := gD h hy;exact qq _ (by show y.1.toNat ≤ _; omega)
theorem qv (c : Ct) (h : eL c = false) : eR (ei c) = some c := by
 obtain ⟨oid, crit, has, value⟩ := c;have hv : has = false → value = [] := by
  intro h0;subst h0
  simpa [eL] using h
 simp only [eR, ei, fQ, ew, ai];cases crit <;> cases has
 ·simp [eQ, fP, cq, da, bN, hv rfl]
 ·simp [eQ, fP, cq, da, El.cls, El.tag, bN]
 ·simp [eQ, fP, cq, da, El.cls, El.tag, go, bN, hv rfl]
 ·simp [eQ, fP, cq, da, El.cls, El.tag, go, bN]
theorem qw (l : List Ct) (h : l.any eL = false) : dC eR (l.map ei) = some l := by
 have := jN (g := eR) (f := ei) (k := id) l (fun x hx => qv x (by
  cases hb : eL x
  ·rfl
  ·rw [← h]; exact (List.any_eq_true.2 ⟨x, hx, hb⟩).symm))
 simpa using this
/- Filters. -/
theorem il (t : Int) (s : List UInt8) (r : List El) (h : s ≠ []) : df t (.mk 2 t false s [] :: r) = some (s, r) := by
 simp only [df];rw [dm (g := fun e => dK e 2 t) r (fJ 2 t s [])]
 simp [h]
theorem lj (rest : List El) (h0 : da 2 1 rest = false) : ∀ (l : List (List UInt8)) (n : Nat), l.length ≤ n → (∀ s ∈ l, s ≠ []) → dT n (l.map (fun s => El.mk 2 1 false s []) ++ rest) = some (l, rest)
 | [], 0, _, _ => rfl
 | [], n + 1, _, _ => by simp [dT, h0]
 | s :: r, 0, h, _ => by simp at h
 | s :: r, n + 1, h, hs => by
  have ih := lj rest h0 r n (by simp at h; omega) (fun x hx => hs x (by simp [hx]));simp only [List.map_cons, List.cons_append, dT, da, El.cls, El.tag, decide_true, Bool.and_self, if_true];rw [il 1 s _ (hs s (by simp))]
  simp [ih]
theorem qy (p : Fl) (h : p.any.contains [] = false) : eC (bL p) = some (p.init, p.any, p.final) := by
 have hs : ∀ s ∈ p.any, s ≠ [] := by
  rintro s hs rfl;rw [List.contains_iff_mem.2 hs] at h;cases h
 have hf : ∀ (i : List UInt8), (dT (p.any.map (fun s => El.mk 2 1 false s []) ++ (if p.final = [] then [] else [El.mk 2 2 false p.final []])).length (p.any.map (fun s => El.mk 2 1 false s []) ++ (if p.final = [] then [] else [El.mk 2 2 false p.final []]))).bind
   (fun a => (if da 2 2 a.2 then df 2 a.2 else some ([], a.2)).bind fun f => bN (i, a.1, f.1) f.2) = some (i, p.any, p.final) := by
  intro i;rw [lj _ (by split <;> simp [da, El.cls, El.tag]) p.any _ (by simp) hs];simp only [ai]
  by_cases h1 : p.final = []
  ·simp [h1, da, bN]
  ·simp [h1, da, El.cls, El.tag, il 2 _ _ h1, bN]
 unfold eC bL
 by_cases hi : p.init = []
 ·simp only [hi, if_true, List.nil_append]
  have h0 : da 2 0 (p.any.map (fun s => El.mk 2 1 false s []) ++ (if p.final = [] then [] else [El.mk 2 2 false p.final []])) = false := by
   cases p.any with
   | nil => simp only [List.map_nil, List.nil_append]; split <;> simp [da, El.cls, El.tag]
   | cons x r => simp [da, El.cls, El.tag]
  rw [h0];simp only [aW, if_false, ai];exact hf []
 ·simp only [hi, if_false, List.cons_append, List.nil_append, da, El.cls, El.tag, decide_true, Bool.and_self, if_true]
  rw [il 0 _ _ hi];simp only [ai];exact hf p.init
theorem qz (p : Fl) (hs : bU p = true) (h2 : ¬ (p.op = 0 ∨ p.op = 1 ∨ p.op = 2)) : dA (er p) = some [p] := by
 obtain ⟨op, n, typ, value, ini, fin, any⟩ := p;simp only at h2;simp only [bU, h2, if_false] at hs
 by_cases h3 : op = 3 ∨ op = 5 ∨ op = 6 ∨ op = 8
 ·rw [if_pos h3] at hs
  simp only [aI, aT] at hs;obtain ⟨⟨⟨⟨rfl, rfl⟩, rfl⟩, rfl⟩, _⟩ := hs;have h7 : op ≠ 7 := by omega
  have h4 : op ≠ 4 := by omega
  simp only [er, h7, h4, if_false, dA, h2, cj];rw [ew]
  simp [cq, bN]
 ·rw [if_neg h3] at hs
  by_cases h4 : op = 4
  ·rw [if_pos h4] at hs
   simp only [aI, aT, Bool.not_eq_true'] at hs;obtain ⟨⟨⟨⟨_, hany⟩, rfl⟩, rfl⟩, _⟩ := hs;subst h4;simp only [er, if_true, show ¬ ((4 : Int) = 7) by decide, if_false, dA, cj, show ¬ ((4 : Int) = 0 ∨ (4 : Int) = 1 ∨ (4 : Int) = 2) by decide];rw [ew];simp only [ai];rw [cq];simp only [ai];rw [dm (g := fun e => ci e 0 16) [] (ew 0 16 [] _)];simp only [ai];rw [qy _ hany]
   simp [bN]
  ·rw [if_neg h4] at hs
   by_cases h7 : op = 7
   ·rw [if_pos h7] at hs
    simp only [aI, aT] at hs;obtain ⟨⟨⟨⟨⟨rfl, rfl⟩, rfl⟩, rfl⟩, rfl⟩, _⟩ := hs;subst h7;simp only [er, if_true, dA, show ¬ ((7 : Int) = 0 ∨ (7 : Int) = 1 ∨ (7 : Int) = 2) by decide, if_false];rw [fJ]
    rfl
   ·rw [if_neg h7] at hs
    cases hs
theorem ku : ∀ (k : Nat) (f r : List Fl), bG k f = some r → ∃ pre, f = pre ++ r ∧ (cD k f).2 = r ∧ dA (cD k f).1 = some pre
 | 0, f, r, h => by simp [bG] at h
 | k + 1, [], r, h => by simp [bG] at h
 | k + 1, p :: f, r, h => by
  have it : ∀ (n : Nat) (f r : List Fl), cV (bG k) n f = some r → ∃ pre, f = pre ++ r ∧ (cT (cD k) n f).2 = r ∧ (cT (cD k) n f).1.length = n ∧ en (cT (cD k) n f).1 = some pre := by
   intro n
   induction n with
   | zero =>
    intro f r h;simp only [cV, Option.some.injEq] at h;subst h;exact ⟨[], rfl, rfl, rfl, by simp [cT, en]⟩
   | succ n ih =>
    intro f r h;simp only [cV] at h;cases hw : bG k f with
    | none => rw [hw] at h; cases h
    | some q =>
     rw [hw] at h;obtain ⟨p1, e1, e2, e3⟩ := ku k f q hw;obtain ⟨p2, e4, e5, e6, e7⟩ := ih q r h;refine ⟨p1 ++ p2, by rw [e1, e4, List.append_assoc], ?_, ?_, ?_⟩
     ·simp only [cT, e2]; exact e5
     ·simp only [cT, e2, aG]; omega
     ·simp only [cT, e2, en, e3, e7]; rfl
  simp only [bG] at h
  by_cases hs : bU p = true
  ·rw [if_pos hs] at h
   by_cases h2 : p.op = 0 ∨ p.op = 1 ∨ p.op = 2
   ·obtain ⟨pre, e1, e2, e3, e4⟩ := it _ _ _ h
    refine ⟨p :: pre, by rw [e1]; rfl, ?_, ?_⟩
    ·simp only [cD, h2, if_true]; exact e2
    ·simp only [cD, h2, if_true, dA, e4]
     obtain ⟨op, n, typ, value, ini, fin, any⟩ := p;simp only at h2 e3 ⊢;simp only [bU, h2, if_true, aI, aT] at hs;obtain ⟨⟨⟨⟨⟨⟨rfl, rfl⟩, rfl⟩, rfl⟩, rfl⟩, hn⟩, _⟩ := hs;have : (((cT (cD k) n.toNat f).1.length : Nat) : Int) = n := by omega
     simp [isE, El.cls, El.tag, El.cons, this]
   ·have hn := iQ hs h2
    rw [hn] at h;simp only [Int.toNat_zero, cV, Option.some.injEq] at h;subst h;refine ⟨[p], rfl, ?_, ?_⟩
    ·simp only [cD, h2, if_false]
    ·simp only [cD, h2, if_false]
     exact qz p hs h2
  ·rw [if_neg hs] at h
   cases h
def Mg.pl (m : Mg) : Mg := { m with filt := Sn, sel := Sn, mods := Sn, attrs := Sn, ctl := Sn }
def Ls.bare (l : Ls) : Ls := { l with ctl := [] }
theorem rO (c t : Int) : da c t [] = false := rfl
theorem rP {m : Mg} {l : Ls} (h : iB m l = true) : (m.op ≠ 3 → l.filt = [] ∧ l.sel = []) ∧ (m.op ≠ 6 → l.mods = []) ∧ (¬ (m.op = 8 ∨ m.op = 4) → l.attrs = []) := by
 simp only [iB, aI, beq_iff_eq] at h;obtain ⟨⟨⟨h1, h2⟩, h3⟩, h4⟩ := h;refine ⟨fun h0 => ⟨?_, ?_⟩, fun h0 => ?_, fun h0 => ?_⟩
 ·simp only [iy, h0, if_false] at h1; exact List.length_eq_zero_iff.1 h1.symm
 ·simp only [iz, h0, if_false] at h2; exact List.length_eq_zero_iff.1 h2.symm
 ·simp only [gQ, h0, if_false] at h3; exact List.length_eq_zero_iff.1 h3.symm
 ·simp only [iA, h0, if_false] at h4; exact List.length_eq_zero_iff.1 h4.symm
structure LsL (B : Nat) (w : World) (m : Mg) (l : Ls) : Prop where
 filt : bM kdF (fun g => B ≤ g) w m.filt l.filt
 sel : bM kdS (fun g => B ≤ g) w m.sel l.sel
 mods : bM kdM (fun g => B ≤ g) w m.mods l.mods
 attrs : bM kdA (fun g => B ≤ g) w m.attrs l.attrs
 ctl : bM kdC (fun g => B ≤ g) w m.ctl l.ctl
theorem LsL.to {B : Nat} {w w' : World} {m : Mg} {l : Ls} (h : LsL B w m l) {X : List Nat} (k : Lft X w.heap.size w w') (hX : ∀ j ∈ X, j < B) : LsL B w' m l := by
 have hk : ∀ g, B ≤ g → g < w.heap.size → w'.heap[g]? = w.heap[g]? ∧ B ≤ g := fun g hg hl => ⟨k.old hl fun hm => by have := hX g hm; omega, hg⟩
 exact ⟨h.filt.kept hk (by decide), h.sel.kept hk (by decide), h.mods.kept hk (by decide), h.attrs.kept hk (by decide), h.ctl.kept hk (by decide)⟩
theorem LsL.none (B : Nat) (w : World) (m : Mg) : LsL B w m.pl {} := ⟨bM.nil _ _ _, bM.nil _ _ _, bM.nil _ _ _, bM.nil _ _ _, bM.nil _ _ _⟩
structure MsR (w : World) (P : Nat → Prop) (b M : Nat) (m : Mg) (r : List El) (wx : World) : Prop where
 msg : wx.heap[M]? = some (.cells m.row 28 (0, 0))
 row : RowA (fun g => P g ∧ g < w.heap.size) b r wx
 lft : Lft [b, M] w.heap.size w wx
 blt : b < w.heap.size
 mlt : M < w.heap.size
 ne : b ≠ M
 nP : ∀ g, P g → g ≠ M
theorem MsR.lftn {w wx wy : World} {P : Nat → Prop} {b M : Nat} {m : Mg} {r : List El} (h : MsR w P b M m r wx) {X : List Nat} (k : Lft X wx.heap.size wx wy) (hX : ∀ j ∈ X, j = b ∨ j = M ∨ w.heap.size ≤ j) : Lft [b, M] w.heap.size w wy := by
 have hs := h.lft.size;have hl := h.lft;exact ⟨k.os.trans hl.os, k.tape.trans hl.tape, k.output.trans hl.output, Nat.le_trans hs k.size, fun j hj hne => (k.block j (by omega) fun hm => by
  rcases hX j hm with h1 | h1 | h1
  ·exact hne (by simp [h1])
  ·exact hne (by simp [h1])
  ·omega).trans (hl.block j hj hne)⟩
theorem MsR.next {w wx wy : World} {P : Nat → Prop} {b M : Nat} {m : Mg} {r : List El} (h : MsR w P b M m r wx) (k : Lft [b] wx.heap.size wx wy) (r' : List El) (hr : RowA (fun g => P g ∧ g < w.heap.size) b r' wy) : MsR w P b M m r' wy := by
 have hs := h.lft.size;exact ⟨k.at h.msg (by have := h.ne; simp; omega), hr, h.lftn k (by simp), h.blt, h.mlt, h.ne, h.nP⟩
theorem MsR.to {w wx wy : World} {P : Nat → Prop} {b M : Nat} {m : Mg} {r : List El} (h : MsR w P b M m r wx) {X : List Nat} (k : Lft X wx.heap.size wx wy) (hX : ∀ j ∈ X, w.heap.size ≤ j) : MsR w P b M m r wy := by
 have h1 := h.blt;have h2 := h.mlt;exact ⟨k.at h.msg fun hm => by have := hX _ hm; omega, h.row.keep k (fun hm => by have := hX _ hm; omega) (fun g hg _ hm => by have := hX _ hm; have := hg.2; omega), h.lftn k (fun j hj => .inr (.inr (hX j hj))), h1, h2, h.ne, h.nP⟩
theorem MsR.bel {w wx wy : World} {P : Nat → Prop} {b M : Nat} {m : Mg} {r : List El} (h : MsR w P b M m r wx) (k : Below wx.heap.size wx wy) : MsR w P b M m r wy := h.to (X := []) (.of k) (by simp)
theorem MsR.set {w wx : World} {P : Nat → Prop} {b M : Nat} {m m' : Mg} {r : List El} (h : MsR w P b M m r wx) (k : Nat) (v : Value) (hc : m.row.setIfInBounds k v = m'.row) : MsR w P b M m' r (wx.setCell ⟨M, k, none⟩ v) := by
 have k1 : Lft [M] wx.heap.size wx (wx.setCell ⟨M, k, none⟩ v) := (Lft.refl wx).set _ _ _ (by simp);refine ⟨?_, h.row.keep k1 (by simpa using h.ne) (fun g hg _ => by simpa using h.nP g hg.1), h.lftn k1 (by simp), h.blt, h.mlt, h.ne, h.nP⟩;rw [← hc];exact bw (i := k) (u := v) h.msg
theorem MsR.size {w wx : World} {P : Nat → Prop} {b M : Nat} {m : Mg} {r : List El} (h : MsR w P b M m r wx) : w.heap.size ≤ wx.heap.size := h.lft.size
def MgO (B M : Nat) (y : Mg × Ls) (w' : World) : Prop := ∃ m : Mg, w'.heap[M]? = some (.cells m.row 28 (0, 0)) ∧ m.pl = y.1 ∧ LsL B w' m y.2 ∧ m.ctl = Sn
theorem MsR.done {w wx : World} {P : Nat → Prop} {b M : Nat} {m : Mg} {r : List El} (h : MsR w P b M m r wx) (hm : m.pl = m) : MgO w.heap.size M (m, ({} : Ls)) wx ∧ RowA (fun g => P g ∧ g < w.heap.size) b r wx :=
 ⟨⟨m, h.msg, hm, by have q := LsL.none w.heap.size wx m; rw [hm] at q; exact q, by rw [← hm]; rfl⟩, h.row⟩
theorem o0 (P : Nat → Prop) (b M : Nat) (l : List El) (id : Int) (w : World) (hM : w.heap[M]? = some (.cells (Mg.row { id := id, op := 12 }) 28 (0, 0))) (hbM : b ≠ M) (hP : ∀ g, P g → g ≠ M) (h : RowA P b l w) :
  Calls Tryz.prog 149 #[.pointer (some ⟨M, 0, none⟩), .pointer (some ⟨b, 0, none⟩)] w fun e w' => Out (gV id l) (fun y v w' => v = .tuple #[] ∧ MgO w.heap.size M y.1 w' ∧ RowA (fun g => P g ∧ g < w.heap.size) b y.2 w') e w' ∧ Lft [b, M] w.heap.size w w' := by
 have h0 : MsR w P b M { id := id, op := 12 } l w := ⟨hM, h.shut, Lft.refl w, h.lt, (gl hM), hbM, hP⟩;generalize hO : gV id l = O;simp only [gV] at hO;have HO := hid hO;clear hO;have hblt := h0.blt;have hmlt := h0.mlt;clear h hM hbM hP
 go_enter Tryz.func149, Tryz.ntmps149
 have kc := cQ _ b l w h0.row
 go_wp2_with fail
 refine ag kc ?_;rintro x w1 ⟨ho, hb⟩;have l1 := h0.lftn hb (by simp);have nx1 := h0.next hb;have hs1 := hb.size;clear kc hb h0;replace HO := HO.out;generalize cg l = E at ho HO;rcases E with _|d
 ·obtain ⟨rfl, rfl⟩ : x = Pn ∧ none = O := ⟨ho, HO⟩
  exact ⟨rfl, rfl, l1⟩
 obtain ⟨v, rfl, rfl, hrow⟩ := ho
 try simp only [ai] at HO
 replace HO := hid HO;have h1c := nx1 _ hrow;clear nx1 hrow l1;have kc := cQ _ b d.2 w1 h1c.row
 go_wp2_with fail
 refine ag kc ?_;rintro x w2 ⟨ho, hb⟩;have l2 := h1c.lftn hb (by simp);have nx2 := h1c.next hb;have hs2 := hb.size;clear kc hb h1c;replace HO := HO.out;generalize cg d.2 = E at ho HO;rcases E with _|n
 ·obtain ⟨rfl, rfl⟩ : x = Pn ∧ none = O := ⟨ho, HO⟩
  exact ⟨rfl, rfl, l2⟩
 obtain ⟨v, rfl, rfl, hrow⟩ := ho
 try simp only [ai] at HO
 replace HO := hid HO;have h2c := nx2 _ hrow;clear nx2 hrow l2;have kc := jM _ b n.2 w2 h2c.row
 go_wp2_with fail
 refine ag kc ?_;rintro x w3 ⟨ho, hb⟩;have l3 := h2c.lftn hb (by simp);have nx3 := h2c.next hb;have hs3 := hb.size;clear kc hb h2c;replace HO := HO.out;generalize fm n.2 = E at ho HO;rcases E with _|y
 ·obtain ⟨rfl, rfl⟩ : x = Pn ∧ none = O := ⟨ho, HO⟩
  exact ⟨rfl, rfl, l3⟩
 obtain ⟨v, rfl, rfl, hrow⟩ := ho
 try simp only [ai] at HO
 replace HO := hid HO;have h3c := nx3 _ hrow;clear nx3 hrow l3;have q4 : w3.cell? ⟨M, 2, none⟩ = some (Es) := (ad h3c.msg 2).trans rfl;have z4 := aj h3c.msg 2;have h4s : MsR w P b M ({ id := id, op := 12, dn := d.1 } : Mg) _ (w3.setCell ⟨M, 2, none⟩ (.string ⟨List.toArray d.1⟩)) := h3c.set 2 (.string ⟨List.toArray d.1⟩) rfl;have q5 : (w3.setCell ⟨M, 2, none⟩ (.string ⟨List.toArray d.1⟩)).cell? ⟨M, 15, none⟩ = some (Es) := (ad h4s.msg 15).trans rfl;have z5 := aj h4s.msg 15;have h5s : MsR w P b M ({ id := id, op := 12, dn := d.1, newRdn := n.1 } : Mg) _ ((w3.setCell ⟨M, 2, none⟩ (.string ⟨List.toArray d.1⟩)).setCell ⟨M, 15, none⟩ (.string ⟨List.toArray n.1⟩)) := h4s.set 15 (.string ⟨List.toArray n.1⟩) rfl;have q6 : ((w3.setCell ⟨M, 2, none⟩ (.string ⟨List.toArray d.1⟩)).setCell ⟨M, 15, none⟩ (.string ⟨List.toArray n.1⟩)).cell? ⟨M, 17, none⟩ = some (Bf) := (ad h5s.msg 17).trans rfl;have z6 := aj h5s.msg 17;have h6s : MsR w P b M ({ id := id, op := 12, dn := d.1, newRdn := n.1, delOld := y.1 } : Mg) _ (((w3.setCell ⟨M, 2, none⟩ (.string ⟨List.toArray d.1⟩)).setCell ⟨M, 15, none⟩ (.string ⟨List.toArray n.1⟩)).setCell ⟨M, 17, none⟩ (.bool y.1)) := h5s.set 17 (.bool y.1) rfl;have kc := gw _ b y.2 0 (((w3.setCell ⟨M, 2, none⟩ (.string ⟨List.toArray d.1⟩)).setCell ⟨M, 15, none⟩ (.string ⟨List.toArray n.1⟩)).setCell ⟨M, 17, none⟩ (.bool y.1)) h6s.row
 go_wp2_with fail
 refine ag kc ?_;rintro x w7 ⟨ho, hb⟩;have l7 := h6s.lftn hb (by simp);have nx7 := h6s.next hb;have hs7 := hb.size;clear kc hb ;replace HO := HO.out;generalize ea 0 y.2 = E at ho HO;rcases E with _|z
 ·obtain ⟨rfl, rfl⟩ : x = Pn ∧ none = O := ⟨ho, HO⟩
  exact ⟨rfl, rfl, l7⟩
 obtain ⟨v, rfl, rfl, hrow⟩ := ho
 try simp only [aw] at HO
 replace HO := hid HO;have h7c := nx7 _ hrow;clear nx7 hrow l7;have q8 : w7.cell? ⟨M, 16, none⟩ = some (Es) := (ad h7c.msg 16).trans rfl;have z8 := aj h7c.msg 16;have h8s : MsR w P b M ({ id := id, op := 12, dn := d.1, newRdn := n.1, newSup := z.1.1, delOld := y.1 } : Mg) _ (w7.setCell ⟨M, 16, none⟩ (.string ⟨List.toArray z.1.1⟩)) := h7c.set 16 (.string ⟨List.toArray z.1.1⟩) rfl;have q9 : (w7.setCell ⟨M, 16, none⟩ (.string ⟨List.toArray z.1.1⟩)).cell? ⟨M, 18, none⟩ = some (Bf) := (ad h8s.msg 18).trans rfl;have z9 := aj h8s.msg 18;have h9s : MsR w P b M ({ id := id, op := 12, dn := d.1, newRdn := n.1, newSup := z.1.1, delOld := y.1, hasSup := z.1.2 } : Mg) _ ((w7.setCell ⟨M, 16, none⟩ (.string ⟨List.toArray z.1.1⟩)).setCell ⟨M, 18, none⟩ (.bool z.1.2)) := h8s.set 18 (.bool z.1.2) rfl
 go_wp2_with fail
 have hO := HO.out;subst hO
 first | go_end0 | (refine aH (v := .tuple #[]) (by simp [results, Tryz.f149]) rfl ?_)
 exact ⟨⟨_, rfl, rfl, h9s.done rfl⟩, h9s.lft⟩
theorem mq (P : Nat → Prop) (b M : Nat) (l : List El) (id : Int) (w : World) (hM : w.heap[M]? = some (.cells (Mg.row { id := id, op := 23 }) 28 (0, 0))) (hbM : b ≠ M) (hP : ∀ g, P g → g ≠ M) (h : RowA P b l w) :
  Calls Tryz.prog 153 #[.pointer (some ⟨M, 0, none⟩), .pointer (some ⟨b, 0, none⟩)] w fun e w' => Out (fI id l) (fun y v w' => v = .tuple #[] ∧ MgO w.heap.size M y.1 w' ∧ RowA (fun g => P g ∧ g < w.heap.size) b y.2 w') e w' ∧ Lft [b, M] w.heap.size w w' := by
 have h0 : MsR w P b M { id := id, op := 23 } l w := ⟨hM, h.shut, Lft.refl w, h.lt, (gl hM), hbM, hP⟩;generalize hO : fI id l = O;simp only [fI, bS] at hO;have HO := hid hO;clear hO;have hblt := h0.blt;have hmlt := h0.mlt;clear h hM hbM hP
 go_enter Tryz.func153, Tryz.ntmps153
 have kc := cG _ b l w h0.row
 go_wp2_with fail
 refine ag kc ?_;rintro x w1 ⟨ho, hb⟩;have l1 := h0.lftn hb (by simp);have nx1 := h0.next hb;have hs1 := hb.size;clear kc hb h0;replace HO := HO.out;generalize ch l = E at ho HO;rcases E with _|q
 ·obtain ⟨rfl, rfl⟩ : x = Pn ∧ none = O := ⟨ho, HO⟩
  exact ⟨rfl, rfl, l1⟩
 obtain ⟨v, rfl, u5, rfl, hse, hu, hrow⟩ := ho
 try simp only [ai] at HO
 replace HO := hid HO;have h1c := nx1 _ hrow;clear nx1 hrow l1;obtain ⟨a5, c5, hf5⟩ := hu.shape;subst hf5;have kc := fv q.1 _ 2 0 w1 (hu.mono fun _ _ _ => trivial)
 go_wp2_with fail
 refine ag kc ?_;rintro x w2 ⟨ho, hb⟩;have nx2 := h1c.to (X := []) (.of hb) (by simp);have l2 := nx2.lft;have hs2 := hb.size;clear kc hb h1c hu hse;replace HO := HO.out;generalize dK q.1 2 0 = E at ho HO;rcases E with _|s
 ·obtain ⟨rfl, rfl⟩ : x = Pn ∧ none = O := ⟨ho, HO⟩
  exact ⟨rfl, rfl, l2⟩
 obtain ⟨v, rfl, rfl⟩ := ho
 try simp only [ai, aw] at HO
 replace HO := hid HO;have h2c := nx2;clear nx2 l2;have q3 : w2.cell? ⟨M, 21, none⟩ = some (Es) := (ad h2c.msg 21).trans rfl;have z3 := aj h2c.msg 21;have h3s : MsR w P b M ({ id := id, op := 23, oid := s } : Mg) _ (w2.setCell ⟨M, 21, none⟩ (.string ⟨List.toArray s⟩)) := h2c.set 21 (.string ⟨List.toArray s⟩) rfl;have kc := gw _ b q.2 1 (w2.setCell ⟨M, 21, none⟩ (.string ⟨List.toArray s⟩)) h3s.row
 go_wp2_with fail
 refine ag kc ?_;rintro x w4 ⟨ho, hb⟩;have l4 := h3s.lftn hb (by simp);have nx4 := h3s.next hb;have hs4 := hb.size;clear kc hb ;replace HO := HO.out;generalize ea 1 q.2 = E at ho HO;rcases E with _|v
 ·obtain ⟨rfl, rfl⟩ : x = Pn ∧ none = O := ⟨ho, HO⟩
  exact ⟨rfl, rfl, l4⟩
 obtain ⟨v, rfl, rfl, hrow⟩ := ho
 try simp only [aw] at HO
 replace HO := hid HO;have h4c := nx4 _ hrow;clear nx4 hrow l4;have q5 : w4.cell? ⟨M, 20, none⟩ = some (Es) := (ad h4c.msg 20).trans rfl;have z5 := aj h4c.msg 20;have h5s : MsR w P b M ({ id := id, op := 23, value := v.1.1, oid := s } : Mg) _ (w4.setCell ⟨M, 20, none⟩ (.string ⟨List.toArray v.1.1⟩)) := h4c.set 20 (.string ⟨List.toArray v.1.1⟩) rfl;have q6 : (w4.setCell ⟨M, 20, none⟩ (.string ⟨List.toArray v.1.1⟩)).cell? ⟨M, 22, none⟩ = some (Bf) := (ad h5s.msg 22).trans rfl;have z6 := aj h5s.msg 22;have h6s : MsR w P b M ({ id := id, op := 23, value := v.1.1, oid := s, has := v.1.2 } : Mg) _ ((w4.setCell ⟨M, 20, none⟩ (.string ⟨List.toArray v.1.1⟩)).setCell ⟨M, 22, none⟩ (.bool v.1.2)) := h5s.set 22 (.bool v.1.2) rfl
 go_wp2_with fail
 have hO := HO.out;subst hO
 first | go_end0 | (refine aH (v := .tuple #[]) (by simp [results, Tryz.f153]) rfl ?_)
 exact ⟨⟨_, rfl, rfl, h6s.done rfl⟩, h6s.lft⟩
theorem lQ (P : Nat → Prop) (b M : Nat) (l : List El) (id : Int) (w : World) (hM : w.heap[M]? = some (.cells (Mg.row { id := id, op := 14 }) 28 (0, 0))) (hbM : b ≠ M) (hP : ∀ g, P g → g ≠ M) (h : RowA P b l w) :
  Calls Tryz.prog 151 #[.pointer (some ⟨M, 0, none⟩), .pointer (some ⟨b, 0, none⟩)] w fun e w' => Out (eZ id l) (fun y v w' => v = .tuple #[] ∧ MgO w.heap.size M y.1 w' ∧ RowA (fun g => P g ∧ g < w.heap.size) b y.2 w') e w' ∧ Lft [b, M] w.heap.size w w' := by
 have h0 : MsR w P b M { id := id, op := 14 } l w := ⟨hM, h.shut, Lft.refl w, h.lt, (gl hM), hbM, hP⟩;generalize hO : eZ id l = O;simp only [eZ, bS] at hO;have HO := hid hO;clear hO;have hblt := h0.blt;have hmlt := h0.mlt;clear h hM hbM hP
 go_enter Tryz.func151, Tryz.ntmps151
 have kc := cQ _ b l w h0.row
 go_wp2_with fail
 refine ag kc ?_;rintro x w1 ⟨ho, hb⟩;have l1 := h0.lftn hb (by simp);have nx1 := h0.next hb;have hs1 := hb.size;clear kc hb h0;replace HO := HO.out;generalize cg l = E at ho HO;rcases E with _|d
 ·obtain ⟨rfl, rfl⟩ : x = Pn ∧ none = O := ⟨ho, HO⟩
  exact ⟨rfl, rfl, l1⟩
 obtain ⟨v, rfl, rfl, hrow⟩ := ho
 try simp only [ai] at HO
 replace HO := hid HO;have h1c := nx1 _ hrow;clear nx1 hrow l1;have q2 : w1.cell? ⟨M, 2, none⟩ = some (Es) := (ad h1c.msg 2).trans rfl;have z2 := aj h1c.msg 2;have h2s : MsR w P b M ({ id := id, op := 14, dn := d.1 } : Mg) _ (w1.setCell ⟨M, 2, none⟩ (.string ⟨List.toArray d.1⟩)) := h1c.set 2 (.string ⟨List.toArray d.1⟩) rfl;have kc := cG _ b d.2 (w1.setCell ⟨M, 2, none⟩ (.string ⟨List.toArray d.1⟩)) h2s.row
 go_wp2_with fail
 refine ag kc ?_;rintro x w3 ⟨ho, hb⟩;have l3 := h2s.lftn hb (by simp);have nx3 := h2s.next hb;have hs3 := hb.size;clear kc hb ;replace HO := HO.out;generalize ch d.2 = E at ho HO;rcases E with _|q
 ·obtain ⟨rfl, rfl⟩ : x = Pn ∧ none = O := ⟨ho, HO⟩
  exact ⟨rfl, rfl, l3⟩
 obtain ⟨v, rfl, u5, rfl, hse, hu, hrow⟩ := ho
 try simp only [ai] at HO
 replace HO := hid HO;have h3c := nx3 _ hrow;clear nx3 hrow l3;obtain ⟨a5, c5, hf5⟩ := hu.shape;subst hf5;have kc := dk q.1 _ 0 16 w3 (hu.mono fun _ _ _ => trivial) hse
 go_wp2_with fail
 refine ag kc ?_;rintro x w4 ⟨ho, hb⟩;have nx4 := h3c.to (X := []) (.of hb) (by simp);have l4 := nx4.lft;have hs4 := hb.size;have hsx := h3c.size;clear kc hb h3c hu hse;replace HO := HO.out;generalize ci q.1 0 16 = E at ho HO;rcases E with _|ks
 ·obtain ⟨rfl, rfl⟩ : x = Pn ∧ none = O := ⟨ho, HO⟩
  exact ⟨rfl, rfl, l4⟩
 obtain ⟨v, rfl, b2, rfl, hb2ge, hrow2⟩ := ho
 try simp only [ai, aw] at HO
 replace HO := hid HO;have h4c := nx4;clear nx4 l4;have kc := cQ _ b2 ks w4 hrow2
 go_wp2_with fail
 refine ag kc ?_;rintro x w5 ⟨ho, hb⟩;have nx5 := h4c.to (X := [b2]) hb (by simp; omega);have l5 := nx5.lft;have hs5 := hb.size;clear kc hb h4c hrow2;replace HO := HO.out;generalize cg ks = E at ho HO;rcases E with _|t
 ·obtain ⟨rfl, rfl⟩ : x = Pn ∧ none = O := ⟨ho, HO⟩
  exact ⟨rfl, rfl, l5⟩
 obtain ⟨v, rfl, rfl, hrow3⟩ := ho
 try simp only [ai] at HO
 replace HO := hid HO;have h5c := nx5;clear nx5 l5;have kc := cQ _ b2 t.2 w5 hrow3
 go_wp2_with fail
 refine ag kc ?_;rintro x w6 ⟨ho, hb⟩;have nx6 := h5c.to (X := [b2]) hb (by simp; omega);have l6 := nx6.lft;have hs6 := hb.size;clear kc hb h5c hrow3;replace HO := HO.out;generalize cg t.2 = E at ho HO;rcases E with _|v
 ·obtain ⟨rfl, rfl⟩ : x = Pn ∧ none = O := ⟨ho, HO⟩
  exact ⟨rfl, rfl, l6⟩
 obtain ⟨v, rfl, rfl, hrow4⟩ := ho
 try simp only [ai] at HO
 replace HO := hid HO;have h6c := nx6;clear nx6 l6;have hlt5 := hrow4.lt;have q7 : w6.cell? ⟨M, 19, none⟩ = some (Es) := (ad h6c.msg 19).trans rfl;have z7 := aj h6c.msg 19;have h7s : MsR w P b M ({ id := id, op := 14, dn := d.1, typ := t.1 } : Mg) _ (w6.setCell ⟨M, 19, none⟩ (.string ⟨List.toArray t.1⟩)) := h6c.set 19 (.string ⟨List.toArray t.1⟩) rfl;have q8 : (w6.setCell ⟨M, 19, none⟩ (.string ⟨List.toArray t.1⟩)).cell? ⟨M, 20, none⟩ = some (Es) := (ad h7s.msg 20).trans rfl;have z8 := aj h7s.msg 20;have h8s : MsR w P b M ({ id := id, op := 14, dn := d.1, typ := t.1, value := v.1 } : Mg) _ ((w6.setCell ⟨M, 19, none⟩ (.string ⟨List.toArray t.1⟩)).setCell ⟨M, 20, none⟩ (.string ⟨List.toArray v.1⟩)) := h7s.set 20 (.string ⟨List.toArray v.1⟩) rfl;have row5 := (hrow4.keep (X := [M]) ((Lft.refl w6).set M 19 (.string ⟨List.toArray t.1⟩) (by simp)) (by simp; omega) (fun g hg _ => by have := hg.1; simp; omega)).keep (X := [M]) ((Lft.refl _).set M 20 (.string ⟨List.toArray v.1⟩) (by simp)) (by simp; omega) (fun g hg _ => by have := hg.1; simp; omega);have kc := cX _ b2 v.2 _ row5
 go_wp2_with fail
 refine ag kc ?_;rintro x w9 ⟨ho, hb⟩;have nx9 := h8s.to (X := []) (.of hb) (by simp);have l9 := nx9.lft;have hs9 := hb.size;clear kc hb row5 hrow4;replace HO := HO.out;rw [dJ] at HO;generalize bN () v.2 = E at ho HO;rcases E with _|uu
 ·obtain ⟨rfl, rfl⟩ : x = Pn ∧ none = O := ⟨ho, HO⟩
  exact ⟨rfl, rfl, l9⟩
 obtain ⟨v, rfl, rfl⟩ := ho
 try simp only [aw] at HO
 replace HO := hid HO;have h9c := nx9;clear nx9 l9
 go_wp2_with fail
 have hO := HO.out;subst hO
 first | go_end0 | (refine aH (v := .tuple #[]) (by simp [results, Tryz.f151]) rfl ?_)
 exact ⟨⟨_, rfl, rfl, h9c.done rfl⟩, h9c.lft⟩
theorem mr (P : Nat → Prop) (b M : Nat) (l : List El) (id op : Int) (w : World) (hM : w.heap[M]? = some (.cells (Mg.row { id := id, op := op }) 28 (0, 0))) (hbM : b ≠ M) (hP : ∀ g, P g → g ≠ M) (h : RowA P b l w) (hop : op ≠ 24) :
  Calls Tryz.prog 155 #[.pointer (some ⟨M, 0, none⟩), .pointer (some ⟨b, 0, none⟩)] w fun e w' => Out (dI id op l) (fun y v w' => v = .tuple #[] ∧ MgO w.heap.size M y.1 w' ∧ RowA (fun g => P g ∧ g < w.heap.size) b y.2 w') e w' ∧ Lft [b, M] w.heap.size w w' := by
 have h0 : MsR w P b M { id := id, op := op } l w := ⟨hM, h.shut, Lft.refl w, h.lt, (gl hM), hbM, hP⟩;generalize hO : dI id op l = O;simp only [dI] at hO;simp only [hop, if_false] at hO;have HO := hid hO;clear hO;have hblt := h0.blt;have hmlt := h0.mlt;clear h hM hbM hP
 go_enter Tryz.func155, Tryz.ntmps155
 have kc := fd _ b l 10 w h0.row
 go_wp2_with fail
 refine ag kc ?_;rintro x w1 ⟨ho, hb⟩;have l1 := h0.lftn hb (by simp);have nx1 := h0.next hb;have hs1 := hb.size;clear kc hb h0;replace HO := HO.out;generalize em 10 l = E at ho HO;rcases E with _|c
 ·obtain ⟨rfl, rfl⟩ : x = Pn ∧ none = O := ⟨ho, HO⟩
  exact ⟨rfl, rfl, l1⟩
 obtain ⟨v, rfl, rfl, hrow⟩ := ho
 try simp only [ai] at HO
 replace HO := hid HO;have h1c := nx1 _ hrow;clear nx1 hrow l1;have kc := cQ _ b c.2 w1 h1c.row
 go_wp2_with fail
 refine ag kc ?_;rintro x w2 ⟨ho, hb⟩;have l2 := h1c.lftn hb (by simp);have nx2 := h1c.next hb;have hs2 := hb.size;clear kc hb h1c;replace HO := HO.out;generalize cg c.2 = E at ho HO;rcases E with _|a
 ·obtain ⟨rfl, rfl⟩ : x = Pn ∧ none = O := ⟨ho, HO⟩
  exact ⟨rfl, rfl, l2⟩
 obtain ⟨v, rfl, rfl, hrow⟩ := ho
 try simp only [ai] at HO
 replace HO := hid HO;have h2c := nx2 _ hrow;clear nx2 hrow l2;have kc := cQ _ b a.2 w2 h2c.row
 go_wp2_with fail
 refine ag kc ?_;rintro x w3 ⟨ho, hb⟩;have l3 := h2c.lftn hb (by simp);have nx3 := h2c.next hb;have hs3 := hb.size;clear kc hb h2c;replace HO := HO.out;generalize cg a.2 = E at ho HO;rcases E with _|t
 ·obtain ⟨rfl, rfl⟩ : x = Pn ∧ none = O := ⟨ho, HO⟩
  exact ⟨rfl, rfl, l3⟩
 obtain ⟨v, rfl, rfl, hrow⟩ := ho
 try simp only [ai] at HO
 replace HO := hid HO;have h3c := nx3 _ hrow;clear nx3 hrow l3;have q4 : w3.cell? ⟨M, 24, none⟩ = some (I0) := (ad h3c.msg 24).trans rfl;have z4 := aj h3c.msg 24;have h4s : MsR w P b M ({ id := id, op := op, code := c.1 } : Mg) _ (w3.setCell ⟨M, 24, none⟩ (.int .i64 c.1)) := h3c.set 24 (.int .i64 c.1) rfl;have q5 : (w3.setCell ⟨M, 24, none⟩ (.int .i64 c.1)).cell? ⟨M, 25, none⟩ = some (Es) := (ad h4s.msg 25).trans rfl;have z5 := aj h4s.msg 25;have h5s : MsR w P b M ({ id := id, op := op, code := c.1, matched := a.1 } : Mg) _ ((w3.setCell ⟨M, 24, none⟩ (.int .i64 c.1)).setCell ⟨M, 25, none⟩ (.string ⟨List.toArray a.1⟩)) := h4s.set 25 (.string ⟨List.toArray a.1⟩) rfl;have q6 : ((w3.setCell ⟨M, 24, none⟩ (.int .i64 c.1)).setCell ⟨M, 25, none⟩ (.string ⟨List.toArray a.1⟩)).cell? ⟨M, 26, none⟩ = some (Es) := (ad h5s.msg 26).trans rfl;have z6 := aj h5s.msg 26;have h6s : MsR w P b M ({ id := id, op := op, code := c.1, matched := a.1, text := t.1 } : Mg) _ (((w3.setCell ⟨M, 24, none⟩ (.int .i64 c.1)).setCell ⟨M, 25, none⟩ (.string ⟨List.toArray a.1⟩)).setCell ⟨M, 26, none⟩ (.string ⟨List.toArray t.1⟩)) := h5s.set 26 (.string ⟨List.toArray t.1⟩) rfl;have q1 : (((w3.setCell ⟨M, 24, none⟩ (.int .i64 c.1)).setCell ⟨M, 25, none⟩ (.string ⟨List.toArray a.1⟩)).setCell ⟨M, 26, none⟩ (.string ⟨List.toArray t.1⟩)).cell? ⟨M, 1, none⟩ = some (.int .i64 op) := (ad h6s.msg 1).trans rfl;have i24 : (op == 24) = false := aE hop
 go_wp2_with fail
 have hO := HO.out;subst hO
 first | go_end0 | (refine aH (v := .tuple #[]) (by simp [results, Tryz.f155]) rfl ?_)
 exact ⟨⟨_, rfl, rfl, h6s.done rfl⟩, h6s.lft⟩
theorem qA (P : Nat → Prop) (b M : Nat) (l : List El) (id : Int) (w : World) (hM : w.heap[M]? = some (.cells (Mg.row { id := id, op := 24 }) 28 (0, 0))) (hbM : b ≠ M) (hP : ∀ g, P g → g ≠ M) (h : RowA P b l w) :
  Calls Tryz.prog 155 #[.pointer (some ⟨M, 0, none⟩), .pointer (some ⟨b, 0, none⟩)] w fun e w' => Out (dI id 24 l) (fun y v w' => v = .tuple #[] ∧ MgO w.heap.size M y.1 w' ∧ RowA (fun g => P g ∧ g < w.heap.size) b y.2 w') e w' ∧ Lft [b, M] w.heap.size w w' := by
 have h0 : MsR w P b M { id := id, op := 24 } l w := ⟨hM, h.shut, Lft.refl w, h.lt, (gl hM), hbM, hP⟩;generalize hO : dI id 24 l = O;simp only [dI, eq_self, if_true] at hO;have HO := hid hO;clear hO;have hblt := h0.blt;have hmlt := h0.mlt;clear h hM hbM hP
 go_enter Tryz.func155, Tryz.ntmps155
 have kc := fd _ b l 10 w h0.row
 go_wp2_with fail
 refine ag kc ?_;rintro x w1 ⟨ho, hb⟩;have l1 := h0.lftn hb (by simp);have nx1 := h0.next hb;have hs1 := hb.size;clear kc hb h0;replace HO := HO.out;generalize em 10 l = E at ho HO;rcases E with _|c
 ·obtain ⟨rfl, rfl⟩ : x = Pn ∧ none = O := ⟨ho, HO⟩
  exact ⟨rfl, rfl, l1⟩
 obtain ⟨v, rfl, rfl, hrow⟩ := ho
 try simp only [ai] at HO
 replace HO := hid HO;have h1c := nx1 _ hrow;clear nx1 hrow l1;have kc := cQ _ b c.2 w1 h1c.row
 go_wp2_with fail
 refine ag kc ?_;rintro x w2 ⟨ho, hb⟩;have l2 := h1c.lftn hb (by simp);have nx2 := h1c.next hb;have hs2 := hb.size;clear kc hb h1c;replace HO := HO.out;generalize cg c.2 = E at ho HO;rcases E with _|a
 ·obtain ⟨rfl, rfl⟩ : x = Pn ∧ none = O := ⟨ho, HO⟩
  exact ⟨rfl, rfl, l2⟩
 obtain ⟨v, rfl, rfl, hrow⟩ := ho
 try simp only [ai] at HO
 replace HO := hid HO;have h2c := nx2 _ hrow;clear nx2 hrow l2;have kc := cQ _ b a.2 w2 h2c.row
 go_wp2_with fail
 refine ag kc ?_;rintro x w3 ⟨ho, hb⟩;have l3 := h2c.lftn hb (by simp);have nx3 := h2c.next hb;have hs3 := hb.size;clear kc hb h2c;replace HO := HO.out;generalize cg a.2 = E at ho HO;rcases E with _|t
 ·obtain ⟨rfl, rfl⟩ : x = Pn ∧ none = O := ⟨ho, HO⟩
  exact ⟨rfl, rfl, l3⟩
 obtain ⟨v, rfl, rfl, hrow⟩ := ho
 try simp only [ai] at HO
 replace HO := hid HO;have h3c := nx3 _ hrow;clear nx3 hrow l3;have q4 : w3.cell? ⟨M, 24, none⟩ = some (I0) := (ad h3c.msg 24).trans rfl;have z4 := aj h3c.msg 24;have h4s : MsR w P b M ({ id := id, op := 24, code := c.1 } : Mg) _ (w3.setCell ⟨M, 24, none⟩ (.int .i64 c.1)) := h3c.set 24 (.int .i64 c.1) rfl;have q5 : (w3.setCell ⟨M, 24, none⟩ (.int .i64 c.1)).cell? ⟨M, 25, none⟩ = some (Es) := (ad h4s.msg 25).trans rfl;have z5 := aj h4s.msg 25;have h5s : MsR w P b M ({ id := id, op := 24, code := c.1, matched := a.1 } : Mg) _ ((w3.setCell ⟨M, 24, none⟩ (.int .i64 c.1)).setCell ⟨M, 25, none⟩ (.string ⟨List.toArray a.1⟩)) := h4s.set 25 (.string ⟨List.toArray a.1⟩) rfl;have q6 : ((w3.setCell ⟨M, 24, none⟩ (.int .i64 c.1)).setCell ⟨M, 25, none⟩ (.string ⟨List.toArray a.1⟩)).cell? ⟨M, 26, none⟩ = some (Es) := (ad h5s.msg 26).trans rfl;have z6 := aj h5s.msg 26;have h6s : MsR w P b M ({ id := id, op := 24, code := c.1, matched := a.1, text := t.1 } : Mg) _ (((w3.setCell ⟨M, 24, none⟩ (.int .i64 c.1)).setCell ⟨M, 25, none⟩ (.string ⟨List.toArray a.1⟩)).setCell ⟨M, 26, none⟩ (.string ⟨List.toArray t.1⟩)) := h5s.set 26 (.string ⟨List.toArray t.1⟩) rfl;have q1 : (((w3.setCell ⟨M, 24, none⟩ (.int .i64 c.1)).setCell ⟨M, 25, none⟩ (.string ⟨List.toArray a.1⟩)).setCell ⟨M, 26, none⟩ (.string ⟨List.toArray t.1⟩)).cell? ⟨M, 1, none⟩ = some (.int .i64 24) := (ad h6s.msg 1).trans rfl;have kc := gw _ b t.2 10 (((w3.setCell ⟨M, 24, none⟩ (.int .i64 c.1)).setCell ⟨M, 25, none⟩ (.string ⟨List.toArray a.1⟩)).setCell ⟨M, 26, none⟩ (.string ⟨List.toArray t.1⟩)) h6s.row
 go_wp2_with fail
 refine ag kc ?_;rintro x w7 ⟨ho, hb⟩;have l7 := h6s.lftn hb (by simp);have nx7 := h6s.next hb;have hs7 := hb.size;clear kc hb ;replace HO := HO.out;generalize ea 10 t.2 = E at ho HO;rcases E with _|y
 ·obtain ⟨rfl, rfl⟩ : x = Pn ∧ none = O := ⟨ho, HO⟩
  exact ⟨rfl, rfl, l7⟩
 obtain ⟨v, rfl, rfl, hrow⟩ := ho
 try simp only [ai] at HO
 replace HO := hid HO;have h7c := nx7 _ hrow;clear nx7 hrow l7;obtain ⟨s, hs⟩ : ∃ s, y.1.1 = s := ⟨_, rfl⟩;obtain ⟨c2, hc⟩ : ∃ c, y.1.2 = c := ⟨_, rfl⟩;have hO := HO.out;clear HO;rw [hs, hc] at hO;rw [hs, hc];clear hs hc;cases c2 with
 | false =>
  simp only [aW, false_and, if_false] at hO;have HO := hid hO;clear hO
  go_wp2_with fail
  refine ag (show Calls _ _ _ _ _ from cN true w7) ?_;rintro e wz ⟨⟨_, rfl, rfl⟩, hwz⟩;obtain rfl := hwz.symm;have q8 : w7.cell? ⟨M, 21, none⟩ = some (Es) := (ad h7c.msg 21).trans rfl;have z8 := aj h7c.msg 21;have h8s : MsR w P b M ({ id := id, op := 24, oid := s, code := c.1, matched := a.1, text := t.1 } : Mg) _ (w7.setCell ⟨M, 21, none⟩ (.string ⟨List.toArray s⟩)) := h7c.set 21 (.string ⟨List.toArray s⟩) rfl;have kc := gw _ b y.2 11 (w7.setCell ⟨M, 21, none⟩ (.string ⟨List.toArray s⟩)) h8s.row
  go_wp2_with fail
  refine ag kc ?_;rintro x w9 ⟨ho, hb⟩;have l9 := h8s.lftn hb (by simp);have nx9 := h8s.next hb;have hs9 := hb.size;clear kc hb ;replace HO := HO.out;generalize ea 11 y.2 = E at ho HO;rcases E with _|v
  ·obtain ⟨rfl, rfl⟩ : x = Pn ∧ none = O := ⟨ho, HO⟩
   exact ⟨rfl, rfl, l9⟩
  obtain ⟨v, rfl, rfl, hrow⟩ := ho
  try simp only [aw] at HO
  replace HO := hid HO;have h9c := nx9 _ hrow;clear nx9 hrow l9;have q10 : w9.cell? ⟨M, 20, none⟩ = some (Es) := (ad h9c.msg 20).trans rfl;have z10 := aj h9c.msg 20;have h10s : MsR w P b M ({ id := id, op := 24, value := v.1.1, oid := s, code := c.1, matched := a.1, text := t.1 } : Mg) _ (w9.setCell ⟨M, 20, none⟩ (.string ⟨List.toArray v.1.1⟩)) := h9c.set 20 (.string ⟨List.toArray v.1.1⟩) rfl;have q11 : (w9.setCell ⟨M, 20, none⟩ (.string ⟨List.toArray v.1.1⟩)).cell? ⟨M, 22, none⟩ = some (Bf) := (ad h10s.msg 22).trans rfl;have z11 := aj h10s.msg 22;have h11s : MsR w P b M ({ id := id, op := 24, value := v.1.1, oid := s, has := v.1.2, code := c.1, matched := a.1, text := t.1 } : Mg) _ ((w9.setCell ⟨M, 20, none⟩ (.string ⟨List.toArray v.1.1⟩)).setCell ⟨M, 22, none⟩ (.bool v.1.2)) := h10s.set 22 (.bool v.1.2) rfl
  go_wp2_with fail
  have hO := HO.out;subst hO
  first | go_end0 | (refine aH (v := .tuple #[]) (by simp [results, Tryz.f155]) rfl ?_)
  exact ⟨⟨_, rfl, rfl, h11s.done rfl⟩, h11s.lft⟩
 | true =>
  by_cases hse : s = []
  ·simp only [hse, and_self, if_true] at hO
   subst hse
   go_wp2_with fail
   refine ag (show Calls _ _ _ _ _ from cN false _) ?_;rintro e wz ⟨he, hwz⟩;obtain rfl := hwz.symm;subst hO;have he2 : e = Pn := he;subst he2;exact ⟨rfl, rfl, h7c.lft⟩
  ·simp only [hse, and_false, if_false] at hO
   have HO := hid hO;clear hO;have hse2 : s.isEmpty = false := by cases s with
    | nil => exact absurd rfl hse
    | cons a b => rfl
   go_wp2_with fail
   refine ag (show Calls _ _ _ _ _ from cN true w7) ?_;rintro e wz ⟨⟨_, rfl, rfl⟩, hwz⟩;obtain rfl := hwz.symm;have q8 : w7.cell? ⟨M, 21, none⟩ = some (Es) := (ad h7c.msg 21).trans rfl;have z8 := aj h7c.msg 21;have h8s : MsR w P b M ({ id := id, op := 24, oid := s, code := c.1, matched := a.1, text := t.1 } : Mg) _ (w7.setCell ⟨M, 21, none⟩ (.string ⟨List.toArray s⟩)) := h7c.set 21 (.string ⟨List.toArray s⟩) rfl;have kc := gw _ b y.2 11 (w7.setCell ⟨M, 21, none⟩ (.string ⟨List.toArray s⟩)) h8s.row
   go_wp2_with fail
   refine ag kc ?_;rintro x w9 ⟨ho, hb⟩;have l9 := h8s.lftn hb (by simp);have nx9 := h8s.next hb;have hs9 := hb.size;clear kc hb ;replace HO := HO.out;generalize ea 11 y.2 = E at ho HO;rcases E with _|v
   ·obtain ⟨rfl, rfl⟩ : x = Pn ∧ none = O := ⟨ho, HO⟩
    exact ⟨rfl, rfl, l9⟩
   obtain ⟨v, rfl, rfl, hrow⟩ := ho
   try simp only [aw] at HO
   replace HO := hid HO;have h9c := nx9 _ hrow;clear nx9 hrow l9;have q10 : w9.cell? ⟨M, 20, none⟩ = some (Es) := (ad h9c.msg 20).trans rfl;have z10 := aj h9c.msg 20;have h10s : MsR w P b M ({ id := id, op := 24, value := v.1.1, oid := s, code := c.1, matched := a.1, text := t.1 } : Mg) _ (w9.setCell ⟨M, 20, none⟩ (.string ⟨List.toArray v.1.1⟩)) := h9c.set 20 (.string ⟨List.toArray v.1.1⟩) rfl;have q11 : (w9.setCell ⟨M, 20, none⟩ (.string ⟨List.toArray v.1.1⟩)).cell? ⟨M, 22, none⟩ = some (Bf) := (ad h10s.msg 22).trans rfl;have z11 := aj h10s.msg 22;have h11s : MsR w P b M ({ id := id, op := 24, value := v.1.1, oid := s, has := v.1.2, code := c.1, matched := a.1, text := t.1 } : Mg) _ ((w9.setCell ⟨M, 20, none⟩ (.string ⟨List.toArray v.1.1⟩)).setCell ⟨M, 22, none⟩ (.bool v.1.2)) := h10s.set 22 (.bool v.1.2) rfl
   go_wp2_with fail
   have hO := HO.out;subst hO
   first | go_end0 | (refine aH (v := .tuple #[]) (by simp [results, Tryz.f155]) rfl ?_)
   exact ⟨⟨_, rfl, rfl, h11s.done rfl⟩, h11s.lft⟩
theorem pa (P : Nat → Prop) (b M : Nat) (l : List El) (id : Int) (w : World) (hM : w.heap[M]? = some (.cells (Mg.row { id := id, op := 0 }) 28 (0, 0))) (hbM : b ≠ M) (hP : ∀ g, P g → g ≠ M) (h : RowA P b l w) :
  Calls Tryz.prog 139 #[.pointer (some ⟨M, 0, none⟩), .pointer (some ⟨b, 0, none⟩)] w fun e w' => Out (gU id l) (fun y v w' => v = .tuple #[] ∧ MgO w.heap.size M y.1 w' ∧ RowA (fun g => P g ∧ g < w.heap.size) b y.2 w') e w' ∧ Lft [b, M] w.heap.size w w' := by
 have h0 : MsR w P b M { id := id, op := 0 } l w := ⟨hM, h.shut, Lft.refl w, h.lt, (gl hM), hbM, hP⟩;generalize hO : gU id l = O;simp only [gU, bS] at hO;have HO := hid hO;clear hO;have hblt := h0.blt;have hmlt := h0.mlt;clear h hM hbM hP
 go_enter Tryz.func139, Tryz.ntmps139
 have kc := fd _ b l 2 w h0.row
 go_wp2_with fail
 refine ag kc ?_;rintro x w1 ⟨ho, hb⟩;have l1 := h0.lftn hb (by simp);have nx1 := h0.next hb;have hs1 := hb.size;clear kc hb h0;replace HO := HO.out;generalize em 2 l = E at ho HO;rcases E with _|v
 ·obtain ⟨rfl, rfl⟩ : x = Pn ∧ none = O := ⟨ho, HO⟩
  exact ⟨rfl, rfl, l1⟩
 obtain ⟨v, rfl, rfl, hrow⟩ := ho
 try simp only [ai] at HO
 replace HO := hid HO;have h1c := nx1 _ hrow;clear nx1 hrow l1;have kc := cQ _ b v.2 w1 h1c.row
 go_wp2_with fail
 refine ag kc ?_;rintro x w2 ⟨ho, hb⟩;have l2 := h1c.lftn hb (by simp);have nx2 := h1c.next hb;have hs2 := hb.size;clear kc hb h1c;replace HO := HO.out;generalize cg v.2 = E at ho HO;rcases E with _|d
 ·obtain ⟨rfl, rfl⟩ : x = Pn ∧ none = O := ⟨ho, HO⟩
  exact ⟨rfl, rfl, l2⟩
 obtain ⟨v, rfl, rfl, hrow⟩ := ho
 try simp only [ai] at HO
 replace HO := hid HO;have h2c := nx2 _ hrow;clear nx2 hrow l2;have q3 : w2.cell? ⟨M, 3, none⟩ = some (I0) := (ad h2c.msg 3).trans rfl;have z3 := aj h2c.msg 3;have h3s : MsR w P b M ({ id := id, op := 0, ver := v.1 } : Mg) _ (w2.setCell ⟨M, 3, none⟩ (.int .i64 v.1)) := h2c.set 3 (.int .i64 v.1) rfl;have q4 : (w2.setCell ⟨M, 3, none⟩ (.int .i64 v.1)).cell? ⟨M, 2, none⟩ = some (Es) := (ad h3s.msg 2).trans rfl;have z4 := aj h3s.msg 2;have h4s : MsR w P b M ({ id := id, op := 0, dn := d.1, ver := v.1 } : Mg) _ ((w2.setCell ⟨M, 3, none⟩ (.int .i64 v.1)).setCell ⟨M, 2, none⟩ (.string ⟨List.toArray d.1⟩)) := h3s.set 2 (.string ⟨List.toArray d.1⟩) rfl;have kc := gw _ b d.2 0 ((w2.setCell ⟨M, 3, none⟩ (.int .i64 v.1)).setCell ⟨M, 2, none⟩ (.string ⟨List.toArray d.1⟩)) h4s.row
 go_wp2_with fail
 refine ag kc ?_;rintro x w5 ⟨ho, hb⟩;have l5 := h4s.lftn hb (by simp);have nx5 := h4s.next hb;have hs5 := hb.size;clear kc hb ;replace HO := HO.out;generalize ea 0 d.2 = E at ho HO;rcases E with _|y
 ·obtain ⟨rfl, rfl⟩ : x = Pn ∧ none = O := ⟨ho, HO⟩
  exact ⟨rfl, rfl, l5⟩
 obtain ⟨v, rfl, rfl, hrow⟩ := ho
 try simp only [ai] at HO
 replace HO := hid HO;have h5c := nx5 _ hrow;clear nx5 hrow l5;obtain ⟨s, hs⟩ : ∃ s, y.1.1 = s := ⟨_, rfl⟩;obtain ⟨c2, hc⟩ : ∃ c, y.1.2 = c := ⟨_, rfl⟩;have hO := HO.out;clear HO;rw [hs, hc] at hO;rw [hs, hc];clear hs hc;have q6 : w5.cell? ⟨M, 5, none⟩ = some (Es) := (ad h5c.msg 5).trans rfl;have z6 := aj h5c.msg 5;have h6s : MsR w P b M ({ id := id, op := 0, dn := d.1, ver := v.1, secret := s } : Mg) _ (w5.setCell ⟨M, 5, none⟩ (.string ⟨List.toArray s⟩)) := h5c.set 5 (.string ⟨List.toArray s⟩) rfl;cases c2 with
 | true =>
  simp only [if_true] at hO;have HO := hid hO;clear hO
  go_wp2_with fail
  have hO := HO.out;subst hO
  first | go_end0 | (refine aH (v := .tuple #[]) (by simp [results, Tryz.f139]) rfl ?_)
  exact ⟨⟨_, rfl, rfl, h6s.done rfl⟩, h6s.lft⟩
 | false =>
  simp only [aW, if_false] at hO;have HO := hid hO;clear hO;have q7 : (w5.setCell ⟨M, 5, none⟩ (.string ⟨List.toArray s⟩)).cell? ⟨M, 4, none⟩ = some (Bf) := (ad h6s.msg 4).trans rfl;have z7 := aj h6s.msg 4;have h7s : MsR w P b M ({ id := id, op := 0, dn := d.1, ver := v.1, sasl := true, secret := s } : Mg) _ ((w5.setCell ⟨M, 5, none⟩ (.string ⟨List.toArray s⟩)).setCell ⟨M, 4, none⟩ (.bool true)) := h6s.set 4 (.bool true) rfl;have kc := cG _ b y.2 ((w5.setCell ⟨M, 5, none⟩ (.string ⟨List.toArray s⟩)).setCell ⟨M, 4, none⟩ (.bool true)) h7s.row
  go_wp2_with fail
  refine ag kc ?_;rintro x w8 ⟨ho, hb⟩;have l8 := h7s.lftn hb (by simp);have nx8 := h7s.next hb;have hs8 := hb.size;clear kc hb ;replace HO := HO.out;generalize ch y.2 = E at ho HO;rcases E with _|q
  ·obtain ⟨rfl, rfl⟩ : x = Pn ∧ none = O := ⟨ho, HO⟩
   exact ⟨rfl, rfl, l8⟩
  obtain ⟨v, rfl, u5, rfl, hse, hu, hrow⟩ := ho
  try simp only [ai] at HO
  replace HO := hid HO;have h8c := nx8 _ hrow;clear nx8 hrow l8;obtain ⟨a5, c5, hf5⟩ := hu.shape;subst hf5;have kc := dk q.1 _ 2 3 w8 (hu.mono fun _ _ _ => trivial) hse
  go_wp2_with fail
  refine ag kc ?_;rintro x w9 ⟨ho, hb⟩;have nx9 := h8c.to (X := []) (.of hb) (by simp);have l9 := nx9.lft;have hs9 := hb.size;have hsx := h8c.size;clear kc hb h8c hu hse;replace HO := HO.out;generalize ci q.1 2 3 = E at ho HO;rcases E with _|ks
  ·obtain ⟨rfl, rfl⟩ : x = Pn ∧ none = O := ⟨ho, HO⟩
   exact ⟨rfl, rfl, l9⟩
  obtain ⟨v, rfl, b2, rfl, hb2ge, hrow2⟩ := ho
  try simp only [ai, aw] at HO
  replace HO := hid HO;have h9c := nx9;clear nx9 l9;have kc := cQ _ b2 ks w9 hrow2
  go_wp2_with fail
  refine ag kc ?_;rintro x w10 ⟨ho, hb⟩;have nx10 := h9c.to (X := [b2]) hb (by simp; omega);have l10 := nx10.lft;have hs10 := hb.size;clear kc hb h9c hrow2;replace HO := HO.out;generalize cg ks = E at ho HO;rcases E with _|t
  ·obtain ⟨rfl, rfl⟩ : x = Pn ∧ none = O := ⟨ho, HO⟩
   exact ⟨rfl, rfl, l10⟩
  obtain ⟨v, rfl, rfl, hrow3⟩ := ho
  try simp only [ai] at HO
  replace HO := hid HO;have h10c := nx10;clear nx10 l10;have hlt5 := hrow3.lt;have q11 : w10.cell? ⟨M, 5, none⟩ = some (.string ⟨List.toArray s⟩) := (ad h10c.msg 5).trans rfl;have z11 := aj h10c.msg 5;have h11s : MsR w P b M ({ id := id, op := 0, dn := d.1, ver := v.1, sasl := true, secret := t.1 } : Mg) _ (w10.setCell ⟨M, 5, none⟩ (.string ⟨List.toArray t.1⟩)) := h10c.set 5 (.string ⟨List.toArray t.1⟩) rfl;have row5 := hrow3.keep (X := [M]) ((Lft.refl w10).set M 5 (.string ⟨List.toArray t.1⟩) (by simp)) (by simp; omega) (fun g hg _ => by have := hg.1; simp; omega);obtain ⟨ar, cr, qb⟩ := row5.cell;obtain ⟨T, hT⟩ : ∃ T, t.2 = T := ⟨_, rfl⟩;have hO := HO.out;clear HO;rw [hT] at hO row5 qb;clear hT hrow3;cases T with
  | nil =>
   simp only [if_true, ai] at hO;have HO := hid hO;clear hO;simp only [aU] at qb;have kc := cX _ b2 [] _ row5
   go_wp2_with fail
   refine ag kc ?_;rintro x w12 ⟨ho, hb⟩;have nx12 := h11s.to (X := []) (.of hb) (by simp);have l12 := nx12.lft;have hs12 := hb.size;clear kc hb row5;replace HO := HO.out;rw [dJ] at HO;generalize bN () ([] : List El) = E at ho HO;rcases E with _|uu
   ·obtain ⟨rfl, rfl⟩ : x = Pn ∧ none = O := ⟨ho, HO⟩
    exact ⟨rfl, rfl, l12⟩
   obtain ⟨v, rfl, rfl⟩ := ho
   try simp only [aw] at HO
   replace HO := hid HO;have h12c := nx12;clear nx12 l12
   go_wp2_with fail
   have hO := HO.out;subst hO
   first | go_end0 | (refine aH (v := .tuple #[]) (by simp [results, Tryz.f139]) rfl ?_)
   exact ⟨⟨_, rfl, rfl, h12c.done rfl⟩, h12c.lft⟩
  | cons e T =>
   simp only [List.cons_ne_nil, if_false] at hO;have HO := hid hO;clear hO;simp only [aG] at qb;have i1 : decide ((0 : Int) < (T.length : Int) + 1) = true := aA (by omega);have kc := cQ _ b2 (e :: T) _ row5
   go_wp2_with fail
   refine ag kc ?_;rintro x w12 ⟨ho, hb⟩;have nx12 := h11s.to (X := [b2]) hb (by simp; omega);have l12 := nx12.lft;have hs12 := hb.size;clear kc hb row5;replace HO := HO.out;generalize cg (e :: T) = E at ho HO;rcases E with _|t2
   ·obtain ⟨rfl, rfl⟩ : x = Pn ∧ none = O := ⟨ho, HO⟩
    exact ⟨rfl, rfl, l12⟩
   obtain ⟨v, rfl, rfl, hrow3⟩ := ho
   try simp only [ai, aw] at HO
   replace HO := hid HO;have h12c := nx12;clear nx12 l12;have kc := cX _ b2 t2.2 _ hrow3
   go_wp2_with fail
   refine ag kc ?_;rintro x w13 ⟨ho, hb⟩;have nx13 := h12c.to (X := []) (.of hb) (by simp);have l13 := nx13.lft;have hs13 := hb.size;clear kc hb hrow3;replace HO := HO.out;rw [dJ] at HO;generalize bN () t2.2 = E at ho HO;rcases E with _|uu
   ·obtain ⟨rfl, rfl⟩ : x = Pn ∧ none = O := ⟨ho, HO⟩
    exact ⟨rfl, rfl, l13⟩
   obtain ⟨v, rfl, rfl⟩ := ho
   try simp only [aw] at HO
   replace HO := hid HO;have h13c := nx13;clear nx13 l13
   go_wp2_with fail
   have hO := HO.out;subst hO
   first | go_end0 | (refine aH (v := .tuple #[]) (by simp [results, Tryz.f139]) rfl ?_)
   exact ⟨⟨_, rfl, rfl, h13c.done rfl⟩, h13c.lft⟩
end Go.Proofs.YthjaiigijbjloaaGreatDoor
