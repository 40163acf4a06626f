/- chancerybook: what a book holds of pairs and parts, and how that stays while more is kept. -/
import Derived.Test.YtegigcneimjimaaGreatDoorBdK
namespace Go.Proofs.YtegigcneimjimaaGreatDoor
open Go.RowKit Go.Lib

/-- The element types of blocks that a book writes to. -/
def bkT (t : TypeId) : Bool := t == 43 || t == 65 || t == 59
/-- Below B all is as it was, and so are all blocks but the book's own. -/
structure Kd (B : Nat) (w w' : World) : Prop where
  os : w'.os = w.os
  tape : w'.tape = w.tape
  output : w'.output = w.output
  size : w.heap.size ≤ w'.heap.size
  block : ∀ k, k < w.heap.size → (k < B ∨ ∀ t, Ty w k t → bkT t = false) → w'.heap[k]? = w.heap[k]?
theorem Kd.refl (B : Nat) (w : World) : Kd B w w := ⟨rfl, rfl, rfl, Nat.le_refl _, fun _ _ _ => rfl⟩
theorem Ty.of_eq {w w' : World} {k : Nat} {t : TypeId} (h : Ty w' k t) (e : w'.heap[k]? = w.heap[k]?) : Ty w k t := by
  obtain ⟨cs, fr, h⟩ := h
  exact ⟨cs, fr, e ▸ h⟩
theorem Kd.trans {B : Nat} {a b c : World} (h : Kd B a b) (k : Kd B b c) : Kd B a c :=
  ⟨k.os.trans h.os, k.tape.trans h.tape, k.output.trans h.output, Nat.le_trans h.size k.size, fun i hi hn => by
    have e := h.block i hi hn
    refine (k.block i (Nat.lt_of_lt_of_le hi h.size) ?_).trans e
    rcases hn with hn | hn
    · exact .inl hn
    · exact .inr (fun t ht => hn t (ht.of_eq e))⟩
theorem Kd.of_below {B : Nat} {w w' : World} (h : Below w.heap.size w w') : Kd B w w' := ⟨h.os, h.tape, h.output, h.size, fun k hk _ => h.block k hk⟩
theorem Kd.below {B : Nat} {w w' : World} (h : Kd B w w') (hB : B ≤ w.heap.size) : Below B w w' := ⟨h.os, h.tape, h.output, h.size, fun k hk => h.block k (by omega) (.inl hk)⟩
theorem Kd.of_kg {B : Nat} {G : Nat → Prop} {w w' : World} (h : KG G w w') (hG : ∀ k, G k → B ≤ k ∧ ∃ t, Ty w k t ∧ bkT t = true) : Kd B w w' :=
  ⟨h.os, h.tape, h.output, h.size, fun k hk hn => h.block k hk (fun hg => by
    obtain ⟨h1, t, h2, h3⟩ := hG k hg
    rcases hn with hn | hn
    · omega
    · rw [hn t h2] at h3; cases h3)⟩
theorem Kd.own {B B' e size n : Nat} {w w' : World} {v : Value} {xs : List Value} (h : Kd B w w') (ho : w.ownsRow B' e size v n xs) (he : bkT e = false) : w'.ownsRow B' e size v n xs := by
  refine ⟨ho.1, ?_⟩
  rcases ho.2 with hz | ⟨g, cap, cur, rfl, hb, hg, r⟩
  · exact .inl hz
  · refine .inr ⟨g, cap, cur, rfl, hb, (h.block g (Array.getElem?_eq_some_iff.1 hg).1 (.inr (fun t ht => ?_))).trans hg, r⟩
    rw [ht.eq ⟨cur, _, hg⟩]
    exact he
/-- A name in rows of its own, whose blocks lie from M on and below H. -/
def OwnH (M H : Nat) (w : World) (v : Value) (d : List (List Av)) : Prop :=
  ∃ vs, w.ownsRow M 66 1 v d.length vs ∧ (∀ (j : Nat) (r : List Av), d[j]? = some r → ∃ u, vs[j]? = some u ∧ w.ownsRow M 146 2 u r.length (aV r)) ∧ Sep vs ∧ (∀ k, v.ownBlock = some k → k < H) ∧ ∀ u ∈ vs, ∀ k, u.ownBlock = some k → k < H
theorem OwnD.h {M : Nat} {w : World} {v : Value} {d : List (List Av)} (h : OwnD M w v d) : OwnH M w.heap.size w v d := by
  obtain ⟨vs, ho, ha, hs⟩ := h
  refine ⟨vs, ho, ha, hs, fun k hk => (ho.lt k hk).2, fun u hu k hk => ?_⟩
  obtain ⟨j, hj⟩ := List.getElem?_of_mem hu
  have hjl := (List.getElem?_eq_some_iff.1 hj).1
  have := ho.1
  obtain ⟨u', h1, h2⟩ := ha j d[j] (List.getElem?_eq_getElem (by omega))
  rw [hj] at h1
  cases h1
  exact (h2.lt k hk).2
theorem OwnH.d {M H : Nat} {w : World} {v : Value} {d : List (List Av)} (h : OwnH M H w v d) : OwnD M w v d := by
  obtain ⟨vs, ho, ha, hs, _⟩ := h
  exact ⟨vs, ho, ha, hs⟩
theorem OwnH.kd {B M H : Nat} {w w' : World} {v : Value} {d : List (List Av)} (h : OwnH M H w v d) (hk : Kd B w w') : OwnH M H w' v d := by
  obtain ⟨vs, ho, ha, hs, h1, h2⟩ := h
  exact ⟨vs, hk.own ho (by decide), fun j r hj => by obtain ⟨u, h1, h2⟩ := ha j r hj; exact ⟨u, h1, hk.own h2 (by decide)⟩, hs, h1, h2⟩
theorem OwnD.kd {B M : Nat} {w w' : World} {v : Value} {d : List (List Av)} (h : OwnD M w v d) (hk : Kd B w w') : OwnD M w' v d := by
  obtain ⟨vs, ho, ha, hs⟩ := h
  exact ⟨vs, hk.own ho (by decide), fun j r hj => by obtain ⟨u, h1, h2⟩ := ha j r hj; exact ⟨u, h1, hk.own h2 (by decide)⟩, hs⟩
/-- What a book holds: the blocks of its lists are among F's. -/
def BkI (B : Nat) (F : Nat → Prop) (w : World) (p : Nat) : Prop :=
  ∃ (a b c d : Value) (vs us ds es : List Value) (ls : List (List Av)) (dd : List (List (List Av))), BkAt w p a b c d ∧ B ≤ p ∧
    w.ownsRow B 65 1 a vs.length vs ∧ w.ownsRow B 65 1 b us.length us ∧ (∀ k, a.ownBlock = some k → b.ownBlock ≠ some k) ∧
    w.ownsRow B 59 1 c ds.length ds ∧ w.ownsRow B 59 1 d es.length es ∧ (∀ k, c.ownBlock = some k → d.ownBlock ≠ some k) ∧
    (vs.length ≤ 250 ∧ us.length = vs.length ∧ ls.length = vs.length ∧ ds.length ≤ 250 ∧ es.length = ds.length ∧ dd.length = ds.length) ∧
    (∀ (i : Nat) (l : List Av), ls[i]? = some l → l.length ≤ 500000 ∧ ∃ v u, vs[i]? = some v ∧ us[i]? = some u ∧ w.ownsRow B 146 2 v l.length (aV l) ∧ w.ownsRow B 146 2 u l.length (aV l)) ∧ Sep vs ∧ (∀ v ∈ vs, ∀ k, v.ownBlock = some k → F k) ∧
    (∀ (i : Nat) (l : List (List Av)), dd[i]? = some l → (l.length ≤ 1000 ∧ ∀ r ∈ l, r.length ≤ 500000) ∧ ∃ v u, ds[i]? = some v ∧ es[i]? = some u ∧ OwnD B w v l ∧ OwnD B w u l) ∧ Sep ds ∧ (∀ v ∈ ds, ∀ k, v.ownBlock = some k → F k)
theorem BkI.below {B p : Nat} {F : Nat → Prop} {w w' : World} (h : BkI B F w p) (hb : Below w.heap.size w w') : BkI B F w' p := by
  obtain ⟨a, b, c, d, vs, us, ds, es, ls, dd, h0, hp, h1, h2, h3, h4, h5, h6, h7, h8, h9, h10, h11, h12, h13⟩ := h
  exact ⟨a, b, c, d, vs, us, ds, es, ls, dd, h0.below hb, hp, ownBelow h1 hb, ownBelow h2 hb, h3, ownBelow h4 hb, ownBelow h5 hb, h6, h7, fun i l hi => by
    obtain ⟨g0, v, u, g1, g2, g3, g4⟩ := h8 i l hi; exact ⟨g0, v, u, g1, g2, ownBelow g3 hb, ownBelow g4 hb⟩, h9, h10, fun i l hi => by
    obtain ⟨g0, v, u, g1, g2, g3, g4⟩ := h11 i l hi; exact ⟨g0, v, u, g1, g2, g3.below hb, g4.below hb⟩, h12, h13⟩
theorem BkI.mono {B p : Nat} {F F' : Nat → Prop} {w : World} (h : BkI B F w p) (hF : ∀ k, F k → F' k) : BkI B F' w p := by
  obtain ⟨a, b, c, d, vs, us, ds, es, ls, dd, h0, hp, h1, h2, h3, h4, h5, h6, h7, h8, h9, h10, h11, h12, h13⟩ := h
  exact ⟨a, b, c, d, vs, us, ds, es, ls, dd, h0, hp, h1, h2, h3, h4, h5, h6, h7, h8, h9, fun v hv k hk => hF k (h10 v hv k hk), h11, h12, fun v hv k hk => hF k (h13 v hv k hk)⟩
theorem BkI.new {B : Nat} (w : World) (hB : B ≤ w.heap.size) : BkI B (fun _ => False) (w.alloc (.cells (bkRow (.slice none 0 0) (.slice none 0 0) (.slice none 0 0) (.slice none 0 0)) 43)) w.heap.size :=
  ⟨_, _, _, _, [], [], [], [], [], [], alloc_at _ _ _ rfl, hB, World.ownsRow_nil _ _ _ _, World.ownsRow_nil _ _ _ _, fun k hk => (by cases hk), World.ownsRow_nil _ _ _ _, World.ownsRow_nil _ _ _ _, fun k hk => (by cases hk), by decide, fun i l hi => (by simp at hi), Sep.nil, fun v hv => (by cases hv), fun i l hi => (by simp at hi), Sep.nil, fun v hv => (by cases hv)⟩
theorem Avas_bk (B p Bv : Nat) (F : Nat → Prop) (v : Value) (l : List Av) (w : World) (h : BkI B F w p) (hv : w.ownsRow Bv 146 2 v l.length (aV l)) (hBv : B ≤ Bv) (hl : l.length ≤ 500000) (hB : B ≤ w.heap.size) (hF : ∀ k, v.ownBlock = some k → ¬ F k) :
    Calls Tryz.prog 21 #[.pointer (some ⟨p, 0, none⟩), v] w fun e w' => e = .returned (.tuple #[]) ∧ BkI B (fun k => F k ∨ v.ownBlock = some k) w' p ∧ Kd B w w' := by
  obtain ⟨a, b, c, d, vs, us, ds, es, ls, dd, h0, hp, h1, h2, h3, h4, h5, h6, h7, h8, h9, h10, h11, h12, h13⟩ := h
  obtain ⟨n1, n2, n3, n4, n5, n6⟩ := h7
  refine (Avas_any p a b c d v B vs.length vs us l w h0 h1 (by rw [← n2]; exact h2) Bv hv (by omega) hB h3 n1).mono ?_
  rintro e w' ⟨rfl, a', b', vs', us', g0, g1, g2, g3, gk, hor⟩
  have hkd : Kd B w w' := Kd.of_kg gk (fun k hk => by
    rcases hk with rfl | hk | hk
    · exact ⟨hp, _, h0.ty, by decide⟩
    · exact ⟨(h1.lt k hk).1, _, own_ty h1 hk, by decide⟩
    · exact ⟨(h2.lt k hk).1, _, own_ty h2 hk, by decide⟩)
  have k4 : w'.ownsRow B 59 1 c ds.length ds := gk.own h4 (fun k hk hg => by
    rcases hg with rfl | hg | hg
    · exact absurd ((own_ty h4 hk).eq h0.ty) (by decide)
    · exact absurd ((own_ty h4 hk).eq (own_ty h1 hg)) (by decide)
    · exact absurd ((own_ty h4 hk).eq (own_ty h2 hg)) (by decide))
  have k5 : w'.ownsRow B 59 1 d es.length es := gk.own h5 (fun k hk hg => by
    rcases hg with rfl | hg | hg
    · exact absurd ((own_ty h5 hk).eq h0.ty) (by decide)
    · exact absurd ((own_ty h5 hk).eq (own_ty h1 hg)) (by decide)
    · exact absurd ((own_ty h5 hk).eq (own_ty h2 hg)) (by decide))
  have k11 : ∀ (i : Nat) (l : List (List Av)), dd[i]? = some l → (l.length ≤ 1000 ∧ ∀ r ∈ l, r.length ≤ 500000) ∧ ∃ v u, ds[i]? = some v ∧ es[i]? = some u ∧ OwnD B w' v l ∧ OwnD B w' u l := fun i l hi => by
    obtain ⟨g0, v, u, g1, g2, g3, g4⟩ := h11 i l hi
    exact ⟨g0, v, u, g1, g2, g3.kd hkd, g4.kd hkd⟩
  have k8 : ∀ (i : Nat) (l : List Av), ls[i]? = some l → l.length ≤ 500000 ∧ ∃ v u, vs[i]? = some v ∧ us[i]? = some u ∧ w'.ownsRow B 146 2 v l.length (aV l) ∧ w'.ownsRow B 146 2 u l.length (aV l) := fun i l hi => by
    obtain ⟨g0, v, u, g1, g2, g3, g4⟩ := h8 i l hi
    exact ⟨g0, v, u, g1, g2, hkd.own g3 (by decide), hkd.own g4 (by decide)⟩
  refine ⟨rfl, ?_, hkd⟩
  rcases hor with ⟨hlt, rfl, u, rfl, hu⟩ | ⟨_, rfl, rfl⟩
  · refine ⟨a', b', c, d, _, _, ds, es, ls ++ [l], dd, g0, hp, g1, g2, g3, k4, k5, h6, ⟨by simp; omega, by simp [n2], by simp [n3], n4, n5, n6⟩, ?_, ?_, ?_, k11, h12, fun v hv k hk => .inl (h13 v hv k hk)⟩
    · intro i l' hi
      rcases Nat.lt_or_ge i ls.length with hil | hil
      · rw [List.getElem?_append_left hil] at hi
        obtain ⟨g0, v', u', g1, g2, g3, g4⟩ := k8 i l' hi
        exact ⟨g0, v', u', by rw [List.getElem?_append_left (by omega)]; exact g1, by rw [List.getElem?_append_left (by omega)]; exact g2, g3, g4⟩
      · have hi2 := (List.getElem?_eq_some_iff.1 hi).1
        simp at hi2
        have hie : i = ls.length := by omega
        subst hie
        rw [List.getElem?_append_right (Nat.le_refl _), Nat.sub_self] at hi
        cases hi
        exact ⟨hl, v, u, by rw [List.getElem?_append_right (by omega), n3, Nat.sub_self]; rfl, by rw [List.getElem?_append_right (by omega), n3, n2, Nat.sub_self]; rfl, ownMono (hkd.own hv (by decide)) hBv, hu⟩
    · exact h9.snoc (fun u hu k hk e => hF k e (h10 u hu k hk))
    · intro u hu k hk
      rcases List.mem_append.1 hu with hu | hu
      · exact .inl (h10 u hu k hk)
      · simp at hu; subst hu; exact .inr hk
  · exact ⟨a', b', c, d, _, _, ds, es, ls, dd, g0, hp, g1, g2, g3, k4, k5, h6, ⟨n1, n2, n3, n4, n5, n6⟩, k8, h9, fun v hv k hk => .inl (h10 v hv k hk), k11, h12, fun v hv k hk => .inl (h13 v hv k hk)⟩
theorem Rdns_bk (B p Bv : Nat) (F : Nat → Prop) (v : Value) (l : List (List Av)) (w : World) (h : BkI B F w p) (hv : OwnD Bv w v l) (hBv : B ≤ Bv) (hl : l.length ≤ 1000) (hr : ∀ r ∈ l, r.length ≤ 500000) (hB : B ≤ w.heap.size) (hF : ∀ k, v.ownBlock = some k → ¬ F k) :
    Calls Tryz.prog 121 #[.pointer (some ⟨p, 0, none⟩), v] w fun e w' => e = .returned (.tuple #[]) ∧ BkI B (fun k => F k ∨ v.ownBlock = some k) w' p ∧ Kd B w w' := by
  obtain ⟨a, b, c, d, vs, us, ds, es, ls, dd, h0, hp, h1, h2, h3, h4, h5, h6, h7, h8, h9, h10, h11, h12, h13⟩ := h
  obtain ⟨n1, n2, n3, n4, n5, n6⟩ := h7
  refine (Rdns_any p c d a b v B ds.length ds es l w h0 h4 (by rw [← n5]; exact h5) Bv hv (by omega) (fun r hh => by have := hr r hh; omega) hB h6 n4).mono ?_
  rintro e w' ⟨rfl, a', b', vs', us', g0, g1, g2, g3, gk, hor⟩
  have hkd : Kd B w w' := Kd.of_kg gk (fun k hk => by
    rcases hk with rfl | hk | hk
    · exact ⟨hp, _, h0.ty, by decide⟩
    · exact ⟨(h4.lt k hk).1, _, own_ty h4 hk, by decide⟩
    · exact ⟨(h5.lt k hk).1, _, own_ty h5 hk, by decide⟩)
  have k1 : w'.ownsRow B 65 1 a vs.length vs := gk.own h1 (fun k hk hg => by
    rcases hg with rfl | hg | hg
    · exact absurd ((own_ty h1 hk).eq h0.ty) (by decide)
    · exact absurd ((own_ty h1 hk).eq (own_ty h4 hg)) (by decide)
    · exact absurd ((own_ty h1 hk).eq (own_ty h5 hg)) (by decide))
  have k2 : w'.ownsRow B 65 1 b us.length us := gk.own h2 (fun k hk hg => by
    rcases hg with rfl | hg | hg
    · exact absurd ((own_ty h2 hk).eq h0.ty) (by decide)
    · exact absurd ((own_ty h2 hk).eq (own_ty h4 hg)) (by decide)
    · exact absurd ((own_ty h2 hk).eq (own_ty h5 hg)) (by decide))
  have k11 : ∀ (i : Nat) (l : List (List Av)), dd[i]? = some l → (l.length ≤ 1000 ∧ ∀ r ∈ l, r.length ≤ 500000) ∧ ∃ v u, ds[i]? = some v ∧ es[i]? = some u ∧ OwnD B w' v l ∧ OwnD B w' u l := fun i l hi => by
    obtain ⟨g0, v, u, g1, g2, g3, g4⟩ := h11 i l hi
    exact ⟨g0, v, u, g1, g2, g3.kd hkd, g4.kd hkd⟩
  have k8 : ∀ (i : Nat) (l : List Av), ls[i]? = some l → l.length ≤ 500000 ∧ ∃ v u, vs[i]? = some v ∧ us[i]? = some u ∧ w'.ownsRow B 146 2 v l.length (aV l) ∧ w'.ownsRow B 146 2 u l.length (aV l) := fun i l hi => by
    obtain ⟨g0, v, u, g1, g2, g3, g4⟩ := h8 i l hi
    exact ⟨g0, v, u, g1, g2, hkd.own g3 (by decide), hkd.own g4 (by decide)⟩
  refine ⟨rfl, ?_, hkd⟩
  rcases hor with ⟨hlt, rfl, u, rfl, hu⟩ | ⟨_, rfl, rfl⟩
  · refine ⟨a, b, a', b', vs, us, _, _, ls, dd ++ [l], g0, hp, k1, k2, h3, g1, g2, g3, ⟨n1, n2, n3, by simp; omega, by simp [n5], by simp [n6]⟩, k8, h9, fun v hv k hk => .inl (h10 v hv k hk), ?_, ?_, ?_⟩
    · intro i l' hi
      rcases Nat.lt_or_ge i dd.length with hil | hil
      · rw [List.getElem?_append_left hil] at hi
        obtain ⟨g0, v', u', g1, g2, g3, g4⟩ := k11 i l' hi
        exact ⟨g0, v', u', by rw [List.getElem?_append_left (by omega)]; exact g1, by rw [List.getElem?_append_left (by omega)]; exact g2, g3, g4⟩
      · have hi2 := (List.getElem?_eq_some_iff.1 hi).1
        simp at hi2
        have hie : i = dd.length := by omega
        subst hie
        rw [List.getElem?_append_right (Nat.le_refl _), Nat.sub_self] at hi
        cases hi
        exact ⟨⟨hl, hr⟩, v, u, by rw [List.getElem?_append_right (by omega), n6, Nat.sub_self]; rfl, by rw [List.getElem?_append_right (by omega), n6, n5, Nat.sub_self]; rfl, (hv.kd hkd).mono hBv, hu⟩
    · exact h12.snoc (fun u hu k hk e => hF k e (h13 u hu k hk))
    · intro u hu k hk
      rcases List.mem_append.1 hu with hu | hu
      · exact .inl (h13 u hu k hk)
      · simp at hu; subst hu; exact .inr hk
  · exact ⟨a, b, a', b', vs, us, _, _, ls, dd, g0, hp, k1, k2, h3, g1, g2, g3, ⟨n1, n2, n3, n4, n5, n6⟩, k8, h9, fun v hv k hk => .inl (h10 v hv k hk), k11, h12, fun v hv k hk => .inl (h13 v hv k hk)⟩
end Go.Proofs.YtegigcneimjimaaGreatDoor
