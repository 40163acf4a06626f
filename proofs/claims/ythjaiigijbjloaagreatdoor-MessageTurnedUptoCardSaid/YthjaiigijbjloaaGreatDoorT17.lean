/- ReG. -/
import Derived.Test.YthjaiigijbjloaaGreatDoorT16
namespace Go.Proofs.YthjaiigijbjloaaGreatDoor
open Go.RowKit Go.Lib
set_option maxRecDepth 100000
set_option maxHeartbeats 16000000
theorem ik {a b c : World} {o o' : Option Nat} (h : a.grownBy b o) (k : b.grownBy c o') (ho : ∀ g, o' = some g → o = some g ∨ a.heap.size ≤ g) : a.grownBy c o :=
 ⟨k.os.trans h.os, k.tape.trans h.tape, k.output.trans h.output, Nat.le_trans h.size k.size, fun j hj hne => (k.block j (by have := h.size; omega) fun he => by
  rcases ho j he.symm with h1 | h1
  ·exact hne h1.symm
  ·omega).trans (h.block j hj hne)⟩
theorem cO {a b : World} {o : Option Nat} (h : Below a.heap.size a b) : a.grownBy b o := ⟨h.os, h.tape, h.output, h.size, fun j hj _ => h.block j hj⟩
theorem rK {w w' : World} {g : Nat} {x : Obj} {o : Option Nat} (h : w.grownBy w' o) (hx : w.heap[g]? = some x) (ho : o ≠ some g) : w'.heap[g]? = some x := (h.block g (gl hx) (Ne.symm ho)).trans hx
def ep {α : Type} (kd : Kd α) (t : TypeId) (B : Nat) (N : Nat → Prop) (w : World) (v : Value) (l : List α) : Prop :=
 ∃ cs : List (List Value), cs.length = l.length ∧ w.ownsRow B t kd.K v l.length cs.flatten ∧ ∀ (j : Nat) (x : α) (c : List Value), l[j]? = some x → cs[j]? = some c → kd.R (fun g => N g ∧ v.ownBlock ≠ some g) w x c
theorem ep.own {α : Type} {kd : Kd α} {t : TypeId} {B : Nat} {w : World} {v : Value} {l : List α} (h : ep kd t B (fun g => B ≤ g) w v l) : cC kd t B w v l := h
theorem ep.nil {α : Type} (kd : Kd α) (t : TypeId) (B : Nat) (N : Nat → Prop) (w : World) : ep kd t B N w (Sn) [] := ⟨[], rfl, ⟨by simp, .inl ⟨rfl, rfl⟩⟩, fun j e u h => by simp at h⟩
theorem ep.shape {α : Type} {kd : Kd α} {t : TypeId} {B : Nat} {N : Nat → Prop} {w : World} {v : Value} {l : List α} (h : ep kd t B N w v l) : ∃ a c, v = .slice a l.length c := by
 obtain ⟨cs, _, ho, _⟩ := h;exact gf ho
theorem ep.lt {α : Type} {kd : Kd α} {t : TypeId} {B : Nat} {N : Nat → Prop} {w : World} {v : Value} {l : List α} (h : ep kd t B N w v l) {g : Nat} (hg : v.ownBlock = some g) : B ≤ g ∧ g < w.heap.size := by
 obtain ⟨cs, _, ho, _⟩ := h;exact ho.lt g hg
theorem ep.keep {α : Type} {kd : Kd α} {t : TypeId} {B : Nat} {N M : Nat → Prop} {w w' : World} {v : Value} {l : List α} (h : ep kd t B N w v l) (hk : ∀ j, N j → j < w.heap.size → w'.heap[j]? = w.heap[j]? ∧ M j) (ho' : ∀ g, v.ownBlock = some g → w'.heap[g]? = w.heap[g]?) : ep kd t B M w' v l := by
 obtain ⟨cs, hu, ho, hkk⟩ := h;refine ⟨cs, hu, ⟨ho.1, ?_⟩, fun j e u q1 q2 => kd.kept (hkk j e u q1 q2) fun g hg hl => ⟨(hk g hg.1 hl).1, (hk g hg.1 hl).2, hg.2⟩⟩;rcases ho.2 with h0 | ⟨g, cap, cur, hv, hb, hg, rest⟩
 ·exact .inl h0
 ·exact .inr ⟨g, cap, cur, hv, hb, (ho' g (by rw [hv]; rfl)).trans hg, rest⟩
theorem ep.below {α : Type} {kd : Kd α} {t : TypeId} {B : Nat} {N : Nat → Prop} {w w' : World} {v : Value} {l : List α} (h : ep kd t B N w v l) (hb : Below w.heap.size w w') : ep kd t B N w' v l :=
 h.keep (fun j hj hl => ⟨hb.block j hl, hj⟩) fun g hg => hb.block g (h.lt hg).2
theorem ep.more {α : Type} {kd : Kd α} {t : TypeId} {B H g cap : Nat} {N : Nat → Prop} {w w' : World} {v : Value} {cs : List (List Value)} {l : List α} {e : α} {c : List Value} (hu : cs.length = l.length)
  (hk : ∀ (j : Nat) (x : α) (c : List Value), l[j]? = some x → cs[j]? = some c → kd.R (fun g => N g ∧ v.ownBlock ≠ some g) w x c) (hke : kd.R (fun g => N g ∧ v.ownBlock ≠ some g) w e c)
  (ho : w'.ownsRow B t kd.K (.slice (some ⟨g, 0, none⟩) (l.length + 1) cap) (l.length + 1) (cs.flatten ++ c))
  (hg : w.grownBy w' v.ownBlock) (hat : v.ownBlock = some g ∨ g = H) (hH : w.heap.size = H) : ep kd t B N w' (.slice (some ⟨g, 0, none⟩) (l.length + 1) cap) (l ++ [e]) := by
 have hkeep : ∀ (x : α) (c : List Value), kd.R (fun g => N g ∧ v.ownBlock ≠ some g) w x c → kd.R (fun g' => N g' ∧ (.slice (some ⟨g, 0, none⟩) (l.length + 1) cap : Value).ownBlock ≠ some g') w' x c := by
  intro x c q;refine kd.kept q fun g' hg' hl' => ⟨hg.block g' hl' (fun h => hg'.2 h.symm), hg'.1, fun h => ?_⟩
  have hgg : g = g' := by simpa [Value.ownBlock] using h
  rcases hat with h1 | h1
  ·exact hg'.2 (hgg ▸ h1)
  ·omega
 have hlen : (l ++ [e]).length = l.length + 1 := by simp
 refine ⟨cs ++ [c], by simp [hu], ?_, fun j x y q1 q2 => ?_⟩
 ·rw [hlen, List.flatten_append, List.flatten_cons, List.flatten_nil, List.append_nil]
  exact ho
 ·by_cases hj : j < l.length
  ·rw [List.getElem?_append_left hj] at q1
   rw [List.getElem?_append_left (by omega)] at q2;exact hkeep _ _ (hk j x y q1 q2)
  ·have hj' : j = l.length := by
    have := (List.getElem?_eq_some_iff.1 q1).1
    simp at this
    omega
   subst hj';rw [List.getElem?_append_right (ah _)] at q1;rw [List.getElem?_append_right (by omega)] at q2
   simp [hu] at q1 q2
   subst q1;subst q2;exact hkeep _ _ hke
theorem eT {w : World} {ops : Array Oper} {rest : List Oper} {o : Oper} {a : Act} {Q : Exit → Act → World → Prop} (hgd : o.guard = none) (s x : Operand) (ho : o.op = .call { callee := .builtin .append, args := #[s, x], argTypes := #[22, 22] })
  (B : Nat) (N : Nat → Prop) (v : Value) (l : List Fl) (hs : a.eval s = v) (hown : ep kdF 60 B N w v l) (e : Fl) (c : List Value) (b : Nat) (hx : a.eval x = .slice (some ⟨b, 0, none⟩) 1 1) (hb : w.heap[b]? = some (.cells c.toArray 60 (0, 0)))
  (hke : kdF.R (fun g => N g ∧ v.ownBlock ≠ some g) w e c) (hl : l.length ≤ 1000000000) (hB : B ≤ w.heap.size)
  (h : ∀ a' c' w', ep kdF 60 B N w' (.slice a' (l.length + 1) c') (l ++ [e]) → w.grownBy w' v.ownBlock → (∀ g, (Value.slice a' (l.length + 1) c').ownBlock = some g → v.ownBlock = some g ∨ w.heap.size ≤ g) → wpList Tryz.prog ops Q rest (a.put o.dst (.slice a' (l.length + 1) c')) w') : wpList Tryz.prog ops Q (o :: rest) a w := by
 obtain ⟨i0, hi0, hz0, hz1, hz2⟩ := info_parts Tryz.info5F;refine aB hgd fun K hK => ?_
 obtain ⟨cs, hu, hown', hk⟩ := hown;refine wp_append_lies w s x 22 ho B 60 i0 _ 7 104 Tryz.underlying22 hi0 hz0 hz1 hz2 rfl (by decide) v l.length cs.flatten hs hown' ⟨b, 0, none⟩ 1 1 c hx (by rw [kdF.len hke]; rfl) (World.news_of_block hb) (kdF.one hke) (by decide) (by unfold maxLen; omega) (by omega) hB _ rfl ?_;intro g cap w' q1 q2 q3 _;refine hK _ _ (h _ _ _ (ep.more hu hk hke q1 q2 q3 rfl) q2 fun g' hg' => ?_);have hgg : g = g' := by simpa [Value.ownBlock] using hg'
 subst hgg;rcases q3 with h1 | h1
 ·exact .inl h1
 ·exact .inr (by omega)
mutual
def ed : El → Nat
 | .mk _ _ _ _ ks => 1 + dL ks
def dL : List El → Nat
 | [] => 0
 | e :: r => ed e + dL r
end
def jd (el : El) : Prop := ∀ (u : Value) (B : Nat) (N : Nat → Prop) (v : Value) (f : List Fl) (w : World), bf (fun _ => True) w u el.kids → SmE el → ep kdF 60 B N w v f → B ≤ w.heap.size → (∀ g, w.heap.size ≤ g → N g) → f.length + ed el ≤ 1000000000 →
 Calls Tryz.prog 168 #[.agg (elA el u), v] w fun e w' => Out (dA el) (fun y v' w' => ep kdF 60 B N w' v' (f ++ y) ∧ y.length ≤ ed el ∧ ∀ g, v'.ownBlock = some g → v.ownBlock = some g ∨ w.heap.size ≤ g) e w' ∧ w.grownBy w' v.ownBlock
theorem oY {el : El} (h : ¬ (el.tag = 0 ∨ el.tag = 1 ∨ el.tag = 2)) (h7 : el.tag ≠ 7) (h4 : el.tag ≠ 4) : dA el = (ci el 2 el.tag).bind fun r => (cg r).bind fun a => (cg a.2).bind fun v => bN [⟨el.tag, 0, a.1, v.1, [], [], []⟩] v.2 := by
 cases el with
 | mk c t k b ks =>
  simp only [El.tag] at h h7 h4 ⊢;simp only [dA, h, h7, h4, if_false]
theorem qk {el : El} (h4 : el.tag = 4) : dA el = (ci el 2 4).bind fun r => (cg r).bind fun a => (bS (fun e => ci e 0 16) a.2).bind fun p => (eC p.1).bind fun x => bN [⟨4, 0, a.1, [], x.1, x.2.2, x.2.1⟩] p.2 := by
 cases el with
 | mk c t k b ks =>
  simp only [El.tag] at h4;subst h4
  rfl
theorem oZ {el : El} (h7 : el.tag = 7) : dA el = (dK el 2 7).map fun s => [⟨7, 0, s, [], [], [], []⟩] := by
 cases el with
 | mk c t k b ks =>
  simp only [El.tag] at h7;subst h7
  rfl
theorem rL {el : El} (h : el.tag = 0 ∨ el.tag = 1 ∨ el.tag = 2) : dA el = (ci el 2 el.tag).bind fun ks => (en ks).map fun f => ⟨el.tag, ks.length, [], [], [], [], []⟩ :: f := by
 cases el with
 | mk c t k b ks =>
  simp only [El.tag] at h ⊢;simp only [dA, h, if_true, ci, El.kids]
  split <;> rfl
theorem iG (el : El) : 1 ≤ ed el := by
 cases el with
 | mk c t k b ks => simp only [ed]; omega
theorem qm (el : El) (h2 : ¬ (el.tag = 0 ∨ el.tag = 1 ∨ el.tag = 2)) (h7 : el.tag ≠ 7) (h4 : el.tag ≠ 4) : jd el := by
 intro u B N v f w h hs hown hB hN hlen;have hcp := iG el;obtain ⟨a, c, hf⟩ := h.shape;subst hf;obtain ⟨av, cv, hsh⟩ := hown.shape;subst hsh;have b1 : Below w.heap.size w ((w.alloc (.cells (Er el a c) 45)).alloc (.cells #[.int .i64 el.tag, I0, Es, Es, Es, Es, Sn] 60)) := ((aq _ _).alloc (ah _) _).alloc (by simp) _;have r1 : ((w.alloc (.cells (Er el a c) 45)).alloc (.cells #[.int .i64 el.tag, I0, Es, Es, Es, Es, Sn] 60)).heap[w.heap.size]? = some (.cells (Er el a c) 45 (0, 0)) := (alloc_old _ _ _ (by simp)).trans (bi _ _ _ rfl);have g1 : ((w.alloc (.cells (Er el a c) 45)).alloc (.cells #[.int .i64 el.tag, I0, Es, Es, Es, Es, Sn] 60)).heap[w.heap.size + 1]? = some (.cells #[.int .i64 el.tag, I0, Es, Es, Es, Es, Sn] 60 (0, 0)) := bi _ _ _ (by simp);have kc := dk el _ 2 el.tag ((w.alloc (.cells (Er el a c) 45)).alloc (.cells #[.int .i64 el.tag, I0, Es, Es, Es, Es, Sn] 60)) (h.below b1) hs;generalize hO : dA el = O;rw [oY h2 h7 h4] at hO
 try simp only [bS] at hO
 have HO := hid hO;have HW := hid hown;have HN := hid hN;have hlf : f.length ≤ 1000000000 := by omega
 unfold elA at kc ⊢;clear h hs hO hown hN;have i0 : (el.tag == 0) = false := aE (by omega);have i1 : (el.tag == 1) = false := aE (by omega);have i2 : (el.tag == 2) = false := aE (by omega);have i4 : (el.tag == 4) = false := aE h4;have i7 : (el.tag == 7) = false := aE h7;clear h2 h7 h4
 go_enter Tryz.func168, Tryz.ntmps168
 go_upto_region 2 with fail
 generalize ((w.alloc (.cells (Er el a c) 45)).alloc (.cells #[.int .i64 el.tag, I0, Es, Es, Es, Es, Sn] 60)) = w1 at b1 r1 g1 kc ⊢;have hg1 := (gl g1);have qt : w1.cell? ⟨w.heap.size, 1, none⟩ = some (.int .i64 el.tag) := (ad r1 1).trans rfl
 go_wp2_with (refine bg rfl 45 (.tmp 2) rfl w.heap.size 45 _ (0, 0) (by rfl) r1 _ Tryz.underlying45 rfl (by rfl) ?_)
 refine ag kc ?_;rintro x w2 ⟨ho, hb⟩;have b2 := b1.trans (hb.mono b1.size);have g2 := bk hb g1;have hs12 := hb.size;clear kc hb r1 g1 b1 qt;replace HO := HO.out;generalize ci el 2 el.tag = E at ho HO;rcases E with _|ks
 ·obtain ⟨rfl, rfl⟩ : x = Pn ∧ none = O := ⟨ho, HO⟩
  exact ⟨rfl, rfl, cO b2⟩
 obtain ⟨v, rfl, b, rfl, hbge, hrow⟩ := ho
 try simp only [ai] at HO
 replace HO := hid HO;have kc := cQ _ b ks w2 hrow
 go_wp2_with fail
 refine ag kc ?_;rintro x w3 ⟨ho, hb⟩;have b3 := b2.trans (hb.below1 (B := w.heap.size) (by omega) b2.size);have g3 := hb.at g2 (by simp; omega);have hs23 := hb.size;clear kc hb g2 b2 hrow;replace HO := HO.out;generalize cg ks = E at ho HO;rcases E with _|t
 ·obtain ⟨rfl, rfl⟩ : x = Pn ∧ none = O := ⟨ho, HO⟩
  exact ⟨rfl, rfl, cO b3⟩
 obtain ⟨v, rfl, rfl, hrow⟩ := ho
 try simp only [ai] at HO
 replace HO := hid HO;have kc := cQ _ b t.2 w3 hrow
 go_wp2_with fail
 refine ag kc ?_;rintro x w4 ⟨ho, hb⟩;have b4 := b3.trans (hb.below1 (B := w.heap.size) (by omega) b3.size);have g4 := hb.at g3 (by simp; omega);have hs34 := hb.size;clear kc hb g3 b3 hrow;replace HO := HO.out;generalize cg t.2 = E at ho HO;rcases E with _|s
 ·obtain ⟨rfl, rfl⟩ : x = Pn ∧ none = O := ⟨ho, HO⟩
  exact ⟨rfl, rfl, cO b4⟩
 obtain ⟨v, rfl, rfl, hrow⟩ := ho
 try simp only [ai] at HO
 replace HO := hid HO;have q5 : w4.cell? ⟨w.heap.size + 1, 2, none⟩ = some (Es) := (ad g4 2).trans rfl;have z5 := aj g4 2;have g5 : (w4.setCell ⟨w.heap.size + 1, 2, none⟩ (.string ⟨t.1.toArray⟩)).heap[w.heap.size + 1]? = some (.cells #[.int .i64 el.tag, I0, .string ⟨t.1.toArray⟩, Es, Es, Es, Sn] 60 (0, 0)) := bw (i := 2) (u := .string ⟨t.1.toArray⟩) g4;have q6 : (w4.setCell ⟨w.heap.size + 1, 2, none⟩ (.string ⟨t.1.toArray⟩)).cell? ⟨w.heap.size + 1, 3, none⟩ = some (Es) := (ad g5 3).trans rfl;have z6 := aj g5 3;have g6 : ((w4.setCell ⟨w.heap.size + 1, 2, none⟩ (.string ⟨t.1.toArray⟩)).setCell ⟨w.heap.size + 1, 3, none⟩ (.string ⟨s.1.toArray⟩)).heap[w.heap.size + 1]? = some (.cells #[.int .i64 el.tag, I0, .string ⟨t.1.toArray⟩, .string ⟨s.1.toArray⟩, Es, Es, Sn] 60 (0, 0)) := bw (i := 3) (u := .string ⟨s.1.toArray⟩) g5;have m6 : Lft [w.heap.size + 1] w4.heap.size w4 ((w4.setCell ⟨w.heap.size + 1, 2, none⟩ (.string ⟨t.1.toArray⟩)).setCell ⟨w.heap.size + 1, 3, none⟩ (.string ⟨s.1.toArray⟩)) := ((Lft.refl w4).set _ _ _ (by simp)).set _ _ _ (by simp);have b6 := b4.trans (m6.below1 (B := w.heap.size) (by omega) b4.size);have row6 := hrow.keep m6 (by simp; omega) (fun g hg _ => by have := hg.1; simp; omega);have G6 := hid g6;have B6 := hid b6;have hs46 := m6.size;clear g4 g5 g6 b4 b6 m6 hrow;have kc := cX _ b s.2 _ row6
 go_wp2_with fail
 refine ag kc ?_;rintro x w7 ⟨ho, hb⟩;have b7 := B6.out.trans (hb.mono B6.out.size);have g7 := bk hb G6.out;clear kc hb G6 B6 row6 q5 z5 q6 z6;replace HO := HO.out;rw [dJ] at HO;generalize bN () s.2 = E at ho HO;rcases E with _|uu
 ·obtain ⟨rfl, rfl⟩ : x = Pn ∧ none = O := ⟨ho, HO⟩
  exact ⟨rfl, rfl, cO b7⟩
 obtain ⟨v, rfl, rfl⟩ := ho
 try simp only [aw] at HO
 replace HO := hid HO;have m8 := alb w7 #[.int .i64 el.tag, I0, .string ⟨t.1.toArray⟩, .string ⟨s.1.toArray⟩, Es, Es, Sn] 60;have x8 : (w7.alloc (.cells #[.int .i64 el.tag, I0, .string ⟨t.1.toArray⟩, .string ⟨s.1.toArray⟩, Es, Es, Sn] 60)).heap[w7.heap.size]? = some (.cells (List.toArray [.int .i64 el.tag, I0, .string ⟨t.1.toArray⟩, .string ⟨s.1.toArray⟩, Es, Es, Sn]) 60 (0, 0)) := bi _ _ _ rfl;have b8 := b7.trans (m8.mono b7.size);have k8 : kdF.R (fun g => N g ∧ (Value.slice av f.length cv).ownBlock ≠ some g) (w7.alloc (.cells #[.int .i64 el.tag, I0, .string ⟨t.1.toArray⟩, .string ⟨s.1.toArray⟩, Es, Es, Sn] 60)) ⟨el.tag, 0, t.1, s.1, [], [], []⟩ [.int .i64 el.tag, I0, .string ⟨t.1.toArray⟩, .string ⟨s.1.toArray⟩, Es, Es, Sn] := ⟨_, rfl, bM.nil _ _ _⟩;have hs8 := b8.size;have O8 := hid (HW.out.below b8);have X8 := hid x8;have B8 := hid b8;have K8 := hid k8;clear m8 x8 b8 k8 b7
 go_wp2_with (first | (refine bg rfl 60 (.tmp 5) rfl (w.heap.size + 1) 60 _ (0, 0) (by rfl) g7 _ Tryz.underlying60 rfl (by rfl) ?_) | (at_builtin; refine eT rfl (.tmp 77) (.tmp 79) rfl B N (.slice av f.length cv) f rfl O8.out ⟨el.tag, 0, t.1, s.1, [], [], []⟩ [.int .i64 el.tag, I0, .string ⟨t.1.toArray⟩, .string ⟨s.1.toArray⟩, Es, Es, Sn] w7.heap.size rfl X8.out K8.out hlf (by omega) ?_; intro a' c' w9 ho9 hg9 hat9))
 go_ret
 have hO := HO.out;subst hO;exact ⟨⟨_, rfl, ho9, by simpa using hcp, fun g hg => (hat9 g hg).imp id fun h1 => by omega⟩, ik (cO B8.out) hg9 fun g hg => .inl hg⟩
theorem qo (el : El) (h7 : el.tag = 7) : jd el := by
 intro u B N v f w h hs hown hB hN hlen;have hcp := iG el;obtain ⟨a, c, hf⟩ := h.shape;subst hf;obtain ⟨av, cv, hsh⟩ := hown.shape;subst hsh;have b1 : Below w.heap.size w ((w.alloc (.cells #[.int .i64 el.cls, .int .i64 7, .bool el.cons, .string ⟨el.bytes.toArray⟩, .slice a el.kids.length c] 45)).alloc (.cells #[.int .i64 7, I0, Es, Es, Es, Es, Sn] 60)) := ((aq _ _).alloc (ah _) _).alloc (by simp) _;have r1 : ((w.alloc (.cells #[.int .i64 el.cls, .int .i64 7, .bool el.cons, .string ⟨el.bytes.toArray⟩, .slice a el.kids.length c] 45)).alloc (.cells #[.int .i64 7, I0, Es, Es, Es, Es, Sn] 60)).heap[w.heap.size]? = some (.cells #[.int .i64 el.cls, .int .i64 7, .bool el.cons, .string ⟨el.bytes.toArray⟩, .slice a el.kids.length c] 45 (0, 0)) := (alloc_old _ _ _ (by simp)).trans (bi _ _ _ rfl);have g1 : ((w.alloc (.cells #[.int .i64 el.cls, .int .i64 7, .bool el.cons, .string ⟨el.bytes.toArray⟩, .slice a el.kids.length c] 45)).alloc (.cells #[.int .i64 7, I0, Es, Es, Es, Es, Sn] 60)).heap[w.heap.size + 1]? = some (.cells #[.int .i64 7, I0, Es, Es, Es, Es, Sn] 60 (0, 0)) := bi _ _ _ (by simp);have kc := fv el _ 2 7 ((w.alloc (.cells #[.int .i64 el.cls, .int .i64 7, .bool el.cons, .string ⟨el.bytes.toArray⟩, .slice a el.kids.length c] 45)).alloc (.cells #[.int .i64 7, I0, Es, Es, Es, Es, Sn] 60)) (h.below b1);generalize hO : dA el = O;rw [oZ h7] at hO
 try simp only [bS] at hO
 have HO := hid hO;have HW := hid hown;have HN := hid hN;have hlf : f.length ≤ 1000000000 := by omega
 unfold elA at kc ⊢;rw [h7] at kc ⊢;clear h hs hO hown hN
 go_enter Tryz.func168, Tryz.ntmps168
 go_upto_region 2 with fail
 generalize ((w.alloc (.cells #[.int .i64 el.cls, .int .i64 7, .bool el.cons, .string ⟨el.bytes.toArray⟩, .slice a el.kids.length c] 45)).alloc (.cells #[.int .i64 7, I0, Es, Es, Es, Es, Sn] 60)) = w1 at b1 r1 g1 kc ⊢;have hg1 := (gl g1);clear h7;have qt : w1.cell? ⟨w.heap.size, 1, none⟩ = some (.int .i64 7) := (ad r1 1).trans rfl
 go_wp2_with (refine bg rfl 45 (.tmp 2) rfl w.heap.size 45 _ (0, 0) (by rfl) r1 _ Tryz.underlying45 rfl (by rfl) ?_)
 refine ag kc ?_;rintro x w2 ⟨ho, hb⟩;have b2 := b1.trans (hb.mono b1.size);have g2 := bk hb g1;have hs12 := hb.size;clear kc hb r1 g1 b1 qt;replace HO := HO.out;generalize dK el 2 7 = E at ho HO;rcases E with _|s
 ·obtain ⟨rfl, rfl⟩ : x = Pn ∧ none = O := ⟨ho, HO⟩
  exact ⟨rfl, rfl, cO b2⟩
 obtain ⟨v, rfl, rfl⟩ := ho
 try simp only [aw] at HO
 replace HO := hid HO;have q5 : w2.cell? ⟨w.heap.size + 1, 2, none⟩ = some (Es) := (ad g2 2).trans rfl;have z5 := aj g2 2;have g3 : (w2.setCell ⟨w.heap.size + 1, 2, none⟩ (.string ⟨s.toArray⟩)).heap[w.heap.size + 1]? = some (.cells #[.int .i64 7, I0, .string ⟨s.toArray⟩, Es, Es, Es, Sn] 60 (0, 0)) := bw (i := 2) (u := .string ⟨s.toArray⟩) g2;have m3 : Lft [w.heap.size + 1] w2.heap.size w2 (w2.setCell ⟨w.heap.size + 1, 2, none⟩ (.string ⟨s.toArray⟩)) := (Lft.refl w2).set _ _ _ (by simp);have b3 := b2.trans (m3.below1 (B := w.heap.size) (by omega) b2.size);clear g2 b2 m3
 go_upto_region 22 with fail
 clear q5 z5;generalize (w2.setCell ⟨w.heap.size + 1, 2, none⟩ (.string ⟨s.toArray⟩)) = w3 at b3 g3 ⊢;have m8 := alb w3 #[.int .i64 7, I0, .string ⟨s.toArray⟩, Es, Es, Es, Sn] 60;have x8 : (w3.alloc (.cells #[.int .i64 7, I0, .string ⟨s.toArray⟩, Es, Es, Es, Sn] 60)).heap[w3.heap.size]? = some (.cells (List.toArray [.int .i64 7, I0, .string ⟨s.toArray⟩, Es, Es, Es, Sn]) 60 (0, 0)) := bi _ _ _ rfl;have b8 := b3.trans (m8.mono b3.size);have k8 : kdF.R (fun g => N g ∧ (Value.slice av f.length cv).ownBlock ≠ some g) (w3.alloc (.cells #[.int .i64 7, I0, .string ⟨s.toArray⟩, Es, Es, Es, Sn] 60)) ⟨7, 0, s, [], [], [], []⟩ [.int .i64 7, I0, .string ⟨s.toArray⟩, Es, Es, Es, Sn] := ⟨_, rfl, bM.nil _ _ _⟩;have hs8 := b8.size;have O8 := hid (HW.out.below b8);have X8 := hid x8;have B8 := hid b8;have K8 := hid k8;clear m8 x8 b8 k8 b3
 go_wp2_with (first | (refine bg rfl 60 (.tmp 5) rfl (w.heap.size + 1) 60 _ (0, 0) (by rfl) g3 _ Tryz.underlying60 rfl (by rfl) ?_) | (at_builtin; refine eT rfl (.tmp 77) (.tmp 79) rfl B N (.slice av f.length cv) f rfl O8.out ⟨7, 0, s, [], [], [], []⟩ [.int .i64 7, I0, .string ⟨s.toArray⟩, Es, Es, Es, Sn] w3.heap.size rfl X8.out K8.out hlf (by omega) ?_; intro a' c' w9 ho9 hg9 hat9))
 go_ret
 have hO := HO.out;subst hO;exact ⟨⟨_, rfl, ho9, by simpa using hcp, fun g hg => (hat9 g hg).imp id fun h1 => by omega⟩, ik (cO B8.out) hg9 fun g hg => .inl hg⟩
theorem rM (el : El) (h4 : el.tag = 4) : jd el := by
 intro u B N v f w h hs hown hB hN hlen;have hcp := iG el;obtain ⟨a, c, hf⟩ := h.shape;subst hf;obtain ⟨av, cv, hsh⟩ := hown.shape;subst hsh;have b1 : Below w.heap.size w ((w.alloc (.cells #[.int .i64 el.cls, .int .i64 4, .bool el.cons, .string ⟨el.bytes.toArray⟩, .slice a el.kids.length c] 45)).alloc (.cells #[.int .i64 4, I0, Es, Es, Es, Es, Sn] 60)) := ((aq _ _).alloc (ah _) _).alloc (by simp) _;have r1 : ((w.alloc (.cells #[.int .i64 el.cls, .int .i64 4, .bool el.cons, .string ⟨el.bytes.toArray⟩, .slice a el.kids.length c] 45)).alloc (.cells #[.int .i64 4, I0, Es, Es, Es, Es, Sn] 60)).heap[w.heap.size]? = some (.cells #[.int .i64 el.cls, .int .i64 4, .bool el.cons, .string ⟨el.bytes.toArray⟩, .slice a el.kids.length c] 45 (0, 0)) := (alloc_old _ _ _ (by simp)).trans (bi _ _ _ rfl);have g1 : ((w.alloc (.cells #[.int .i64 el.cls, .int .i64 4, .bool el.cons, .string ⟨el.bytes.toArray⟩, .slice a el.kids.length c] 45)).alloc (.cells #[.int .i64 4, I0, Es, Es, Es, Es, Sn] 60)).heap[w.heap.size + 1]? = some (.cells #[.int .i64 4, I0, Es, Es, Es, Es, Sn] 60 (0, 0)) := bi _ _ _ (by simp);have kc := dk el _ 2 4 ((w.alloc (.cells #[.int .i64 el.cls, .int .i64 4, .bool el.cons, .string ⟨el.bytes.toArray⟩, .slice a el.kids.length c] 45)).alloc (.cells #[.int .i64 4, I0, Es, Es, Es, Es, Sn] 60)) (h.below b1) hs;generalize hO : dA el = O;rw [qk h4] at hO
 try simp only [bS] at hO
 have HO := hid hO;have HW := hid hown;have HN := hid hN;have hlf : f.length ≤ 1000000000 := by omega
 unfold elA at kc ⊢;rw [h4] at kc ⊢;clear h hs hO hown hN
 go_enter Tryz.func168, Tryz.ntmps168
 go_upto_region 2 with fail
 generalize ((w.alloc (.cells #[.int .i64 el.cls, .int .i64 4, .bool el.cons, .string ⟨el.bytes.toArray⟩, .slice a el.kids.length c] 45)).alloc (.cells #[.int .i64 4, I0, Es, Es, Es, Es, Sn] 60)) = w1 at b1 r1 g1 kc ⊢;have hg1 := (gl g1);clear h4;have qt : w1.cell? ⟨w.heap.size, 1, none⟩ = some (.int .i64 4) := (ad r1 1).trans rfl
 go_wp2_with (refine bg rfl 45 (.tmp 2) rfl w.heap.size 45 _ (0, 0) (by rfl) r1 _ Tryz.underlying45 rfl (by rfl) ?_)
 refine ag kc ?_;rintro x w2 ⟨ho, hb⟩;have b2 := b1.trans (hb.mono b1.size);have g2 := bk hb g1;have hs12 := hb.size;clear kc hb r1 g1 b1 qt;replace HO := HO.out;generalize ci el 2 4 = E at ho HO;rcases E with _|ks
 ·obtain ⟨rfl, rfl⟩ : x = Pn ∧ none = O := ⟨ho, HO⟩
  exact ⟨rfl, rfl, cO b2⟩
 obtain ⟨v, rfl, b, rfl, hbge, hrow⟩ := ho
 try simp only [ai] at HO
 replace HO := hid HO;have kc := cQ _ b ks w2 hrow
 go_wp2_with fail
 refine ag kc ?_;rintro x w3 ⟨ho, hb⟩;have b3 := b2.trans (hb.below1 (B := w.heap.size) (by omega) b2.size);have g3 := hb.at g2 (by simp; omega);have hs23 := hb.size;clear kc hb g2 b2 hrow;replace HO := HO.out;generalize cg ks = E at ho HO;rcases E with _|t
 ·obtain ⟨rfl, rfl⟩ : x = Pn ∧ none = O := ⟨ho, HO⟩
  exact ⟨rfl, rfl, cO b3⟩
 obtain ⟨v, rfl, rfl, hrow⟩ := ho
 try simp only [ai] at HO
 replace HO := hid HO;have q5 : w3.cell? ⟨w.heap.size + 1, 2, none⟩ = some (Es) := (ad g3 2).trans rfl;have z5 := aj g3 2;have g4 : (w3.setCell ⟨w.heap.size + 1, 2, none⟩ (.string ⟨t.1.toArray⟩)).heap[w.heap.size + 1]? = some (.cells #[.int .i64 4, I0, .string ⟨t.1.toArray⟩, Es, Es, Es, Sn] 60 (0, 0)) := bw (i := 2) (u := .string ⟨t.1.toArray⟩) g3;have m4 : Lft [w.heap.size + 1] w3.heap.size w3 (w3.setCell ⟨w.heap.size + 1, 2, none⟩ (.string ⟨t.1.toArray⟩)) := (Lft.refl w3).set _ _ _ (by simp);have b4 := b3.trans (m4.below1 (B := w.heap.size) (by omega) b3.size);have row4 := (hrow.keep m4 (by simp; omega) (fun g hg _ => by have := hg.1; simp; omega)).shut;have hs34 := m4.size;have hb4 := row4.lt;have G4 := hid g4;have B4 := hid b4;clear g3 g4 b3 b4 m4 hrow;have kc := cG _ b t.2 _ row4
 go_wp2_with fail
 refine ag kc ?_;rintro x w5 ⟨ho, hb⟩;have b5 := B4.out.trans (hb.below1 (B := w.heap.size) (by omega) B4.out.size);have g5 := hb.at G4.out (by simp; omega);have hs45 := hb.size;clear kc hb G4 B4 row4 q5 z5;replace HO := HO.out;generalize ch t.2 = E at ho HO;rcases E with _|q
 ·obtain ⟨rfl, rfl⟩ : x = Pn ∧ none = O := ⟨ho, HO⟩
  exact ⟨rfl, rfl, cO b5⟩
 obtain ⟨v, rfl, u5, rfl, hse, hu, hrow⟩ := ho
 try simp only [ai] at HO
 replace HO := hid HO;obtain ⟨a5, c5, hf5⟩ := hu.shape;subst hf5;have kc := dk q.1 _ 0 16 w5 (hu.mono fun _ _ _ => trivial) hse
 go_wp2_with fail
 refine ag kc ?_;rintro x w6 ⟨ho, hb⟩;have b6 := b5.trans (hb.mono b5.size);have g6 := bk hb g5;have hs56 := hb.size;have row6 := hrow.below hb;clear kc hb g5 b5 hrow hu;replace HO := HO.out;generalize ci q.1 0 16 = E at ho HO;rcases E with _|ks2
 ·obtain ⟨rfl, rfl⟩ : x = Pn ∧ none = O := ⟨ho, HO⟩
  exact ⟨rfl, rfl, cO b6⟩
 obtain ⟨v, rfl, b2, rfl, hb2ge, hrow2⟩ := ho
 try simp only [ai, aw] at HO
 replace HO := hid HO;have kc := mp _ b2 (w.heap.size + 1) ks2 _ _ _ _ w6 g6 (by omega) (fun g hg => by have := hg.1; omega) hrow2
 go_wp2_with fail
 refine ag kc ?_;rintro x w7 ⟨ho, hb⟩;have b7 := b6.trans ((hb.mono (Y := [b2, w.heap.size + 1]) b6.size fun _ _ k => k).below fun j hj hm => by simp at hm; omega);have hs67 := hb.size;have row7 := row6.keep hb (by simp; omega) (fun g hg _ => by have := hg.2; have := hg.1.1; simp; omega);clear kc hb g6 b6 row6 hrow2;replace HO := HO.out;generalize eC ks2 = E at ho HO;rcases E with _|pp
 ·obtain ⟨rfl, rfl⟩ : x = Pn ∧ none = O := ⟨ho, HO⟩
  exact ⟨rfl, rfl, cO b7⟩
 obtain ⟨v, rfl, rfl, up, g7, hlp⟩ := ho
 try simp only [ai] at HO
 replace HO := hid HO;obtain ⟨ap, cp, hfp⟩ := hlp.shape;subst hfp;have kc := cX _ b q.2 w7 row7
 go_wp2_with fail
 refine ag kc ?_;rintro x w8 ⟨ho, hb⟩;have b8 := b7.trans (hb.mono b7.size);have g8 := bk hb g7;have hlp8 := hlp.below hb (by decide);have hs78 := hb.size;clear kc hb g7 b7 row7 hlp;replace HO := HO.out;rw [dJ] at HO;generalize bN () q.2 = E at ho HO;rcases E with _|uu
 ·obtain ⟨rfl, rfl⟩ : x = Pn ∧ none = O := ⟨ho, HO⟩
  exact ⟨rfl, rfl, cO b8⟩
 obtain ⟨v, rfl, rfl⟩ := ho
 try simp only [aw] at HO
 replace HO := hid HO;have m9 := alb w8 #[.int .i64 4, I0, .string ⟨t.1.toArray⟩, Es, .string ⟨pp.1.toArray⟩, .string ⟨pp.2.2.toArray⟩, .slice ap pp.2.1.length cp] 60;have x8 : (w8.alloc (.cells #[.int .i64 4, I0, .string ⟨t.1.toArray⟩, Es, .string ⟨pp.1.toArray⟩, .string ⟨pp.2.2.toArray⟩, .slice ap pp.2.1.length cp] 60)).heap[w8.heap.size]? = some (.cells (List.toArray [.int .i64 4, I0, .string ⟨t.1.toArray⟩, Es, .string ⟨pp.1.toArray⟩, .string ⟨pp.2.2.toArray⟩, .slice ap pp.2.1.length cp]) 60 (0, 0)) := bi _ _ _ rfl;have b9 := b8.trans (m9.mono b8.size);have k8 : kdF.R (fun g => N g ∧ (Value.slice av f.length cv).ownBlock ≠ some g) (w8.alloc (.cells #[.int .i64 4, I0, .string ⟨t.1.toArray⟩, Es, .string ⟨pp.1.toArray⟩, .string ⟨pp.2.2.toArray⟩, .slice ap pp.2.1.length cp] 60)) ⟨4, 0, t.1, [], pp.1, pp.2.2, pp.2.1⟩ [.int .i64 4, I0, .string ⟨t.1.toArray⟩, Es, .string ⟨pp.1.toArray⟩, .string ⟨pp.2.2.toArray⟩, .slice ap pp.2.1.length cp] := ⟨_, rfl, hlp8.kept (fun g hg hl => ⟨m9.block g hl, HN.out g (by omega), fun he => by have := (HW.out.lt he).2; omega⟩) (by decide)⟩;have hs8 := b9.size;have O8 := hid (HW.out.below b9);have X8 := hid x8;have B8 := hid b9;have K8 := hid k8;clear m9 x8 b9 k8 b8 hlp8
 go_wp2_with (first | (refine bg rfl 60 (.tmp 5) rfl (w.heap.size + 1) 60 _ (0, 0) (by rfl) g8 _ Tryz.underlying60 rfl (by rfl) ?_) | (at_builtin; refine eT rfl (.tmp 77) (.tmp 79) rfl B N (.slice av f.length cv) f rfl O8.out ⟨4, 0, t.1, [], pp.1, pp.2.2, pp.2.1⟩ [.int .i64 4, I0, .string ⟨t.1.toArray⟩, Es, .string ⟨pp.1.toArray⟩, .string ⟨pp.2.2.toArray⟩, .slice ap pp.2.1.length cp] w8.heap.size rfl X8.out K8.out hlf (by omega) ?_; intro a' c' w9 ho9 hg9 hat9))
 go_ret
 have hO := HO.out;subst hO;exact ⟨⟨_, rfl, ho9, by simpa using hcp, fun g hg => (hat9 g hg).imp id fun h1 => by omega⟩, ik (cO B8.out) hg9 fun g hg => .inl hg⟩
theorem RowA.grownX {P : Nat → Prop} {b : Nat} {r : List El} {w w' : World} {o : Option Nat} (h : RowA P b r w) (hg : w.grownBy w' o) (hb : o ≠ some b) (hP : ∀ g, P g → o ≠ some g) : RowA P b r w' := by
 obtain ⟨⟨v, h1, h2⟩, hs, hl, hn⟩ := h;exact ⟨⟨v, rK hg h1 hb, h2.kept fun g hg1 hl1 => ⟨hg.block g hl1 (Ne.symm (hP g hg1)), hg1⟩⟩, hs, hl, hn⟩
structure GrX (b : Nat) (o : Option Nat) (w w' : World) : Prop where
 os : w'.os = w.os
 tape : w'.tape = w.tape
 output : w'.output = w.output
 size : w.heap.size ≤ w'.heap.size
 block : ∀ k, k < w.heap.size → k ≠ b → some k ≠ o → w'.heap[k]? = w.heap[k]?
theorem GrX.grown {b : Nat} {o o' : Option Nat} {w w1 w2 : World} (h : GrX b o w w1) (k : w1.grownBy w2 o') (ho : ∀ g, o' = some g → o = some g ∨ w.heap.size ≤ g) : GrX b o w w2 :=
 ⟨k.os.trans h.os, k.tape.trans h.tape, k.output.trans h.output, Nat.le_trans h.size k.size, fun j hj hb hne => (k.block j (by have := h.size; omega) fun he => by
  rcases ho j he.symm with h1 | h1
  ·exact hne h1.symm
  ·omega).trans (h.block j hj hb hne)⟩
theorem GrX.lft {b : Nat} {o : Option Nat} {w w1 w2 : World} (h : GrX b o w w1) (k : Lft [b] w1.heap.size w1 w2) : GrX b o w w2 :=
 ⟨k.os.trans h.os, k.tape.trans h.tape, k.output.trans h.output, Nat.le_trans h.size k.size, fun j hj hb hne => (k.old (by have := h.size; omega) (by simpa using hb)).trans (h.block j hj hb hne)⟩
theorem GrX.out {b : Nat} {o : Option Nat} {w w3 w' : World} (h : GrX b o w3 w') (k : Below w.heap.size w w3) (hb : w.heap.size ≤ b) : w.grownBy w' o :=
 ⟨h.os.trans k.os, h.tape.trans k.tape, h.output.trans k.output, Nat.le_trans k.size h.size, fun j hj hne => (h.block j (by have := k.size; omega) (by omega) hne).trans (k.block j hj)⟩
def FsR (B : Nat) (N : Nat → Prop) (b : Nat) (o : Option Nat) (P : Nat → Prop) (O : Option (List Fl)) (f1 : List Fl) (n : Nat) (w3 : World) (v : Value) (wr : World) : Prop :=
 ∃ (dn : List Fl) (r : List El), ep kdF 60 B N wr v (f1 ++ dn) ∧ (en r).map (dn ++ ·) = O ∧ RowA P b r wr ∧ GrX b o w3 wr ∧ (∀ g, v.ownBlock = some g → o = some g ∨ w3.heap.size ≤ g) ∧ (f1 ++ dn).length + dL r ≤ 1000000000 ∧ dn.length + dL r ≤ n ∧ ∀ e ∈ r, jd e
theorem sX (el : El) (T : Int) (hT : el.tag = T) (h2 : T = 0 ∨ T = 1 ∨ T = 2) (IH : ∀ e ∈ el.kids, jd e) : jd el := by
 intro u B N v f w h hs hown hB hN hlen;have hcp := iG el;obtain ⟨a, c, hf⟩ := h.shape;subst hf;obtain ⟨av, cv, hsh⟩ := hown.shape;subst hsh;have b1 : Below w.heap.size w ((w.alloc (.cells #[.int .i64 el.cls, .int .i64 T, .bool el.cons, .string ⟨el.bytes.toArray⟩, .slice a el.kids.length c] 45)).alloc (.cells #[.int .i64 T, I0, Es, Es, Es, Es, Sn] 60)) := ((aq _ _).alloc (ah _) _).alloc (by simp) _;have r1 : ((w.alloc (.cells #[.int .i64 el.cls, .int .i64 T, .bool el.cons, .string ⟨el.bytes.toArray⟩, .slice a el.kids.length c] 45)).alloc (.cells #[.int .i64 T, I0, Es, Es, Es, Es, Sn] 60)).heap[w.heap.size]? = some (.cells #[.int .i64 el.cls, .int .i64 T, .bool el.cons, .string ⟨el.bytes.toArray⟩, .slice a el.kids.length c] 45 (0, 0)) := (alloc_old _ _ _ (by simp)).trans (bi _ _ _ rfl);have g1 : ((w.alloc (.cells #[.int .i64 el.cls, .int .i64 T, .bool el.cons, .string ⟨el.bytes.toArray⟩, .slice a el.kids.length c] 45)).alloc (.cells #[.int .i64 T, I0, Es, Es, Es, Es, Sn] 60)).heap[w.heap.size + 1]? = some (.cells #[.int .i64 T, I0, Es, Es, Es, Es, Sn] 60 (0, 0)) := bi _ _ _ (by simp);have kc := dk el _ 2 T ((w.alloc (.cells #[.int .i64 el.cls, .int .i64 T, .bool el.cons, .string ⟨el.bytes.toArray⟩, .slice a el.kids.length c] 45)).alloc (.cells #[.int .i64 T, I0, Es, Es, Es, Es, Sn] 60)) (h.below b1) hs;generalize hO : dA el = O;rw [rL (by rw [hT]; exact h2), hT] at hO
 try simp only [bS] at hO
 have HO := hid hO;have HW := hid hown;have HN := hid hN;have hlf : f.length ≤ 1000000000 := by omega
 unfold elA at kc ⊢;rw [hT] at kc ⊢;clear h hs hO hown hN;have IHH := hid IH;have hcnt : ci el 2 T = some el.kids ∨ ci el 2 T = none := by
  unfold ci
  split
  ·exact .inl rfl
  ·exact .inr rfl
 have hce : ed el = 1 + dL el.kids := by
  cases el with
  | mk c t k b ks => rfl
 have HCN := hid hcnt;have HCE := hid hce;clear IH hT hcnt hce
 go_enter Tryz.func168, Tryz.ntmps168
 go_upto_region 2 with fail
 generalize ((w.alloc (.cells #[.int .i64 el.cls, .int .i64 T, .bool el.cons, .string ⟨el.bytes.toArray⟩, .slice a el.kids.length c] 45)).alloc (.cells #[.int .i64 T, I0, Es, Es, Es, Es, Sn] 60)) = w1 at b1 r1 g1 kc ⊢;have hg1 := (gl g1);have qt : w1.cell? ⟨w.heap.size, 1, none⟩ = some (.int .i64 T) := (ad r1 1).trans rfl
 go_upto_if 26 with fail
 go_cut [26] from 27 to 29 (fun s26 wx => s26 = .bool true ∧ wx = w1)
 case first =>
  clear kc HO HW HN IHH HCN HCE r1 g1 qt b1;rcases h2 with h2 | h2 | h2
  all_goals
   subst h2
   go_wp2_with fail
   go_meet
   exact ⟨rfl, rfl⟩
 case rest =>
 obtain ⟨rfl, hw⟩ := hcut;have hw' := hw.symm;subst hw';clear hw h2
 go_wp2_with (refine bg rfl 45 (.tmp 2) rfl w.heap.size 45 _ (0, 0) (by rfl) r1 _ Tryz.underlying45 rfl (by rfl) ?_)
 refine ag kc ?_;rintro x w2 ⟨ho, hb⟩;have b2 := b1.trans (hb.mono b1.size);have g2 := bk hb g1;have hs12 := hb.size;clear kc hb r1 g1 b1 qt;have hO := HO.out;clear HO;have hcn := HCN.out;generalize ci el 2 T = E at ho hO hcn;rcases E with _ | ks
 ·have hx : x = Pn := ho
  subst hx;simp only [ba] at hO;subst hO;exact ⟨rfl, rfl, cO b2⟩
 obtain ⟨v, rfl, b, rfl, hbge, hrow⟩ := ho
 try simp only [ai] at hO
 have HO := hid hO;clear hO;have hks : ks = el.kids := by
  rcases hcn with h | h
  ·exact aD h
  ·cases h
 clear hcn;rw [← hks] at IHH HCE;clear hks;obtain ⟨ar, cr, qb⟩ := hrow.cell;have hbl := hrow.lt;have hkl := hrow.len;have q5 : w2.cell? ⟨w.heap.size + 1, 1, none⟩ = some (I0) := (ad g2 1).trans rfl;have z5 := aj g2 1;have g3 : (w2.setCell ⟨w.heap.size + 1, 1, none⟩ (.int .i64 (ks.length : Int))).heap[w.heap.size + 1]? = some (.cells #[.int .i64 T, .int .i64 (ks.length : Int), Es, Es, Es, Es, Sn] 60 (0, 0)) := bw (i := 1) (u := .int .i64 (ks.length : Int)) g2;have m3 : Lft [w.heap.size + 1] w2.heap.size w2 (w2.setCell ⟨w.heap.size + 1, 1, none⟩ (.int .i64 (ks.length : Int))) := (Lft.refl w2).set _ _ _ (by simp);have b3 := b2.trans (m3.below1 (B := w.heap.size) (by omega) b2.size);have row3 := (hrow.keep m3 (by simp; omega) (fun g hg _ => by have := hg.1; simp; omega)).shut;have hs23 := m3.size;have R3 := hid row3;clear row3 hrow g2 b2 m3
 go_upto_region 11 with fail
 clear q5 z5 qb;generalize (w2.setCell ⟨w.heap.size + 1, 1, none⟩ (.int .i64 (ks.length : Int))) = w3 at b3 g3 R3 hs23 ⊢;have hb3 := R3.out.lt;have m8 := alb w3 #[.int .i64 T, .int .i64 (ks.length : Int), Es, Es, Es, Es, Sn] 60;have x8 : (w3.alloc (.cells #[.int .i64 T, .int .i64 (ks.length : Int), Es, Es, Es, Es, Sn] 60)).heap[w3.heap.size]? = some (.cells (List.toArray [.int .i64 T, .int .i64 (ks.length : Int), Es, Es, Es, Es, Sn]) 60 (0, 0)) := bi _ _ _ rfl;have b8 := b3.trans (m8.mono b3.size);obtain ⟨M, hM⟩ : ∃ M : Nat → Prop, M = fun g => (N g ∧ g < w.heap.size) ∨ w3.heap.size ≤ g := ⟨_, rfl⟩
 have k8 : kdF.R (fun g => M g ∧ (Value.slice av f.length cv).ownBlock ≠ some g) (w3.alloc (.cells #[.int .i64 T, .int .i64 (ks.length : Int), Es, Es, Es, Es, Sn] 60)) ⟨T, ks.length, [], [], [], [], []⟩ [.int .i64 T, .int .i64 (ks.length : Int), Es, Es, Es, Es, Sn] := ⟨_, rfl, bM.nil _ _ _⟩;have hs8 := b8.size;have O8 := hid (HW.out.keep (w' := (w3.alloc (.cells #[.int .i64 T, .int .i64 (ks.length : Int), Es, Es, Es, Es, Sn] 60))) (M := M) (fun j hj hl => ⟨b8.block j hl, by rw [hM]; exact .inl ⟨hj, hl⟩⟩) (fun g hg => b8.block g (HW.out.lt hg).2));have X8 := hid x8;have M8 := hid m8;have K8 := hid k8;have HM := hid hM;have hov : ∀ {g : Nat}, (Value.slice av f.length cv).ownBlock = some g → g < w.heap.size := fun hg => (HW.out.lt hg).2
 clear m8 x8 b8 k8 hM
 go_wp2_with (first | (refine bg rfl 60 (.tmp 5) rfl (w.heap.size + 1) 60 _ (0, 0) (by rfl) g3 _ Tryz.underlying60 rfl (by rfl) ?_) | (at_builtin; refine eT rfl (.tmp 40) (.tmp 42) rfl B M (.slice av f.length cv) f rfl O8.out ⟨T, ks.length, [], [], [], [], []⟩ [.int .i64 T, .int .i64 (ks.length : Int), Es, Es, Es, Es, Sn] w3.heap.size rfl X8.out K8.out hlf (by omega) ?_; intro a' c' w9 ho9 hg9 hat9))
 have gx9 : GrX b (Value.slice av f.length cv).ownBlock w3 w9 := GrX.grown ⟨M8.out.os, M8.out.tape, M8.out.output, M8.out.size, fun k hk _ _ => M8.out.block k hk⟩ hg9 fun g hg => .inl hg
 have hs38 := M8.out.size;have row9 := (R3.out.below M8.out).grownX hg9 (fun he => by have := hov he; omega) (fun g hg he => by have := hov he; have := hg.1.1; omega);obtain ⟨v9, hv9⟩ : ∃ v9, Value.slice a' (f.length + 1) c' = v9 := ⟨_, rfl⟩;rw [hv9] at ho9 hat9 ⊢;obtain ⟨OO, hOO⟩ : ∃ OO, en ks = OO := ⟨_, rfl⟩;have hO := HO.out;rw [hOO] at hO;have hst : FsR B M b (Value.slice av f.length cv).ownBlock (fun g => (w1.heap.size ≤ g ∧ g ≠ b) ∧ g < w3.heap.size) OO (f ++ [⟨T, ks.length, [], [], [], [], []⟩]) (dL ks) w3 v9 w9 := ⟨[], ks, by simpa using ho9, by rw [← hOO]; cases en ks <;> rfl, row9.mono (fun g hg => by exact ⟨hg.1, by omega⟩) (fun g hg => hg.1.2), gx9, fun g hg => (hat9 g hg).imp id fun h => by omega, by simp; have := HCE.out; omega, by simp, IHH.out⟩;have ST := hid hst;clear HO;have HO := hid hO;clear hst hO hOO hv9 ho9 hat9 hg9 gx9 row9 O8 X8 K8 M8 g3 R3;have hbw : w.heap.size ≤ b := by omega
 have hN2 : ∀ g, M g → N g := fun g hg => by
  rw [HM.out] at hg;rcases hg with h | h
  ·exact h.1
  ·exact HN.out g (by omega)
 have hM2 : ∀ g, M g → g ≠ b := fun g hg => by
  rw [HM.out] at hg;rcases hg with h | h
  ·omega
  ·omega
 have hM3 : ∀ g, w3.heap.size ≤ g → M g := fun g hg => by
  rw [HM.out];exact .inr hg
 have N2 := hid hN2;have M2 := hid hM2;have M3 := hid hM3;clear hN2 hM2 hM3 HM
 go_wp2_with fail
 go_loopw [1] (fun v wr => FsR B M b (Value.slice av f.length cv).ownBlock (fun g => (w1.heap.size ≤ g ∧ g ≠ b) ∧ g < w3.heap.size) OO (f ++ [⟨T, ks.length, [], [], [], [], []⟩]) (dL ks) w3 v wr) (fun _ wr => rowN b wr)
 case atStart => exact ST.out
 case round =>
  clear ST;obtain ⟨dn, r, hown, ho, hrow, hgx, hat, hbd, hln, hih⟩ := hrel;obtain ⟨ar, cr, qb⟩ := hrow.cell;have hrN := hid hrow.rowN;have HW2 := hid hown;have HG := hid hgx;have HAT := hid hat;have HO2 := hid ho;have hszr := hgx.size;cases r with
  | nil =>
   simp only [aU] at qb;clear hown hgx hat ho hrow hih
   go_wp2_with fail
   go_ret
   have ho := HO2.out;simp only [en, aw, List.append_nil] at ho;have hO := HO.out;rw [← ho] at hO;simp only [aw] at hO;subst hO;refine ⟨⟨_, rfl, ?_, ?_, fun g hg => (HAT.out g hg).imp id fun h => by omega⟩, HG.out.out b3 hbw⟩
   ·have h := HW2.out.keep (w' := wr) (M := N) (fun j hj _ => ⟨rfl, N2.out j hj⟩) (fun _ _ => rfl)
    simpa using h
   ·have := HCE.out
    simp only [dL] at hln;simp only [aG]
    omega
  | cons e t =>
   simp only [aG] at qb;have hvb : ∀ g, u1.ownBlock = some g → g ≠ b := fun g hg => by
    rcases hat g hg with h | h
    ·have := hov h; omega
    ·omega
   have hvP : ∀ g, ((w1.heap.size ≤ g ∧ g ≠ b) ∧ g < w3.heap.size) → u1.ownBlock ≠ some g := fun g hg he => by
    rcases hat g he with h | h
    ·have := hov h; have := hg.1.1; omega
    ·have := hg.2; omega
   have i1 : decide ((0 : Int) < (t.length : Int) + 1) = true := aA (by omega);have kc := cG _ b (e :: t) wr hrow;have IHE := hid (hih e (by simp));have IHT := hid (fun x (hx : x ∈ t) => hih x (by simp [hx]));clear hown hgx hat ho hrow hih
   go_wp2_with fail
   refine ag kc ?_;rintro x w4 ⟨ho4, hb⟩;obtain ⟨v, rfl, u4, rfl, hse, hu, hrow⟩ := ho4;obtain ⟨a4, c4, hf4⟩ := hu.shape;subst hf4;have o4 : ep kdF 60 B M w4 _ _ := HW2.out.keep (w' := w4) (M := M) (fun j hj hl => ⟨hb.old hl (by have := M2.out j hj; simpa using this), hj⟩) (fun g hg => hb.old (HW2.out.lt hg).2 (by simpa using hvb g hg));have hs4 := hb.size;have gx4 := HG.out.lft hb;have hlb : (f ++ [(⟨T, ks.length, [], [], [], [], []⟩ : Fl)] ++ dn).length + ed e ≤ 1000000000 := by simp only [dL] at hbd; omega
   have kc := IHE.out _ B M _ _ w4 (hu.mono fun _ _ _ => trivial) hse o4 (by omega) (fun g hg => M3.out g (by omega)) hlb;have GX4 := hid gx4;have ROW4 := hid hrow;clear hb HW2 HG qb i1 hu o4 gx4 hrow IHE
   go_wp2_with fail
   refine ag kc ?_;rintro x w5 ⟨ho5, hg5⟩;have gx5 := GX4.out.grown hg5 (fun g hg => HAT.out g hg);have ho := HO2.out;clear kc;cases hE : dA e with
   | none =>
    rw [hE] at ho5;have hx : x = Pn := ho5;subst hx;simp only [en, hE, ba, be] at ho;have hO := HO.out;rw [← ho] at hO;simp only [be] at hO;subst hO;exact ⟨rfl, rfl, gx5.out b3 hbw⟩
   | some y =>
    rw [hE] at ho5;obtain ⟨v5, rfl, hown5, hyl, hat5⟩ := ho5;simp only [en, hE, ai] at ho;have row5 := ROW4.out.grownX hg5 (fun he => hvb b he rfl) hvP;simp only [dL] at hbd hln;have rel : FsR B M b (Value.slice av f.length cv).ownBlock (fun g => (w1.heap.size ≤ g ∧ g ≠ b) ∧ g < w3.heap.size) OO (f ++ [⟨T, ks.length, [], [], [], [], []⟩]) (dL ks) w3 v5 w5 := by
     refine ⟨dn ++ y, t, by simpa using hown5, ?_, row5, gx5, fun g hg => ?_, by simp at hbd ⊢; omega, by simp; omega, IHT.out⟩
     ·rw [← ho]
      cases en t <;> simp
     ·rcases hat5 g hg with h | h
      ·exact HAT.out g h
      ·exact .inr (by omega)
    have hm : rowN b w5 < rowN b wr := by
     rw [row5.rowN, hrN.out]
     simp
    have REL := hid rel;clear rel hown5 hat5 row5 gx5 hg5 GX4 ROW4 HAT HO2 ho hrN IHT hE
    go_wp2_with fail
    exact ⟨REL.out, hm⟩
mutual
theorem je : ∀ el : El, jd el
 | .mk c t k b ks => by
  by_cases h2 : t = 0 ∨ t = 1 ∨ t = 2
  ·exact sX (.mk c t k b ks) t rfl h2 (iV ks)
  by_cases h7 : t = 7
  ·exact qo (.mk c t k b ks) h7
  by_cases h4 : t = 4
  ·exact rM (.mk c t k b ks) h4
  exact qm (.mk c t k b ks) h2 h7 h4
theorem iV : ∀ ks : List El, ∀ e ∈ ks, jd e
 | [], e, h => by simp at h
 | x :: r, e, h => by
  rcases aY.1 h with h | h
  ·rw [h]
   exact je x
  ·exact iV r e h
end
end Go.Proofs.YthjaiigijbjloaaGreatDoor
