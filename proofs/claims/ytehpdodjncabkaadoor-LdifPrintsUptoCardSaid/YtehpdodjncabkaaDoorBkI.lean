/- chancerybook.Lent: lists with a mark behind them; what it returns, at a message with attributes and changes alone. (genlent.py wrote the second part.) -/
import Derived.Test.YtehpdodjncabkaaDoorBkE
namespace Go.Proofs.YtehpdodjncabkaaDoor
open Go.RowKit Go.Lib

/-- All rows of their own stay, but those of one kind. -/
def Kp (t : TypeId) (w w' : World) : Prop := ∀ (B : Nat) (e : TypeId) (size n : Nat) (v : Value) (xs : List Value), e ≠ t → w.ownsRow B e size v n xs → w'.ownsRow B e size v n xs
theorem Kp.below {t : TypeId} {w w' : World} (h : Below w.heap.size w w') : Kp t w w' := fun _ _ _ _ _ _ _ ho => own_below ho h
theorem Kp.set {t : TypeId} {w : World} {b i : Nat} {x : Value} {cs : Array Value} (hb : w.heap[b]? = some (.cells cs t (0, 0))) : Kp t w (w.setCell ⟨b, i, none⟩ x) := fun _ _ _ _ _ _ ht ho => set_kept ho hb ht
theorem Kp.row {t : TypeId} {w : World} {b : Nat} {x : Array Value} {cs : Array Value} (hb : w.heap[b]? = some (.cells cs t (0, 0))) : Kp t w (w.setRow b x) := fun _ _ _ _ _ _ ht ho => row_kept ho hb ht
theorem Kp.grown {t : TypeId} {w w' : World} {B size n : Nat} {v : Value} {xs : List Value} (ho : w.ownsRow B t size v n xs) (hg : w.grownBy w' v.ownBlock) : Kp t w w' := by
  intro B' e s' n' v' xs' ht ho'
  refine ho'.kept hg ?_
  rcases id ho.2 with ⟨rfl, _⟩ | ⟨g, cap, cur, rfl, hb, hgb, _⟩
  · cases h : v'.ownBlock with
    | none => exact .inl rfl
    | some g => exact .inr (fun e => by cases e)
  · exact .inr (own_ne ho' hgb ht)
/-- A message with lists alone. -/
def msgR (f s m a c : Value) : Array Value := #[.int .i64 0, .int .i64 0, .string ⟨#[]⟩, .int .i64 0, .bool false, .string ⟨#[]⟩, .int .i64 0, .int .i64 0, .int .i64 0, .int .i64 0, .bool false, f, s, m, a, .string ⟨#[]⟩, .string ⟨#[]⟩, .bool false, .bool false, .string ⟨#[]⟩, .string ⟨#[]⟩, .string ⟨#[]⟩, .bool false, .int .i64 0, .int .i64 0, .string ⟨#[]⟩, .string ⟨#[]⟩, c]
theorem msgR_cells {g : Nat} {f s m a c : Value} {W : World} (h : W.heap[g]? = some (.cells (msgR f s m a c) 32 (0, 0))) :
    W.cell? ⟨g, 11, none⟩ = some f ∧ W.cell? ⟨g, 12, none⟩ = some s ∧ W.cell? ⟨g, 13, none⟩ = some m ∧ W.cell? ⟨g, 14, none⟩ = some a ∧ W.cell? ⟨g, 27, none⟩ = some c := by
  refine ⟨?_, ?_, ?_, ?_, ?_⟩ <;> (rw [Lib.cell_of_heap h]; rfl)
theorem LentS.kp {t : TypeId} {B : Nat} {w w' : World} {v : Value} {l : List (List UInt8)} (h : LentS B w v l) (k : Kp t w w') (ht : 9 ≠ t) : LentS B w' v l := by
  obtain ⟨g, cap, e, ho⟩ := h
  exact ⟨g, cap, e, k _ _ _ _ _ _ ht ho⟩
theorem LentS.mono {B B' : Nat} {w : World} {v : Value} {l : List (List UInt8)} (h : LentS B w v l) (hB : B' ≤ B) : LentS B' w v l := by
  obtain ⟨g, cap, e, ho⟩ := h
  exact ⟨g, cap, e, own_mono ho hB⟩
theorem OwnM.kp {t : TypeId} {B : Nat} {w w' : World} {v : Value} {ml : List Md} {us : List Value} (h : OwnM B w v ml us) (k : Kp t w w') (h1 : 53 ≠ t) (h2 : 9 ≠ t) : OwnM B w' v ml us :=
  ⟨k _ _ _ _ _ _ h1 h.1, h.2.1, fun j x u q1 q2 => k _ _ _ _ _ _ h2 (h.2.2 j x u q1 q2)⟩
/-- Attributes, each of which was lent, with a mark behind them. -/
def LentA (B : Nat) (w : World) (v : Value) (al : List At) : Prop :=
  ∃ g cap us, v = .slice (some ⟨g, 0, none⟩) al.length cap ∧ w.ownsRow B 51 2 (.slice (some ⟨g, 0, none⟩) (al.length + 1) cap) (al.length + 1) (flatA al us ++ [.string ⟨#[109, 97, 114, 107]⟩, .slice none 0 0]) ∧ us.length = al.length ∧
    ∀ (j : Nat) (x : At) (u : Value), al[j]? = some x → us[j]? = some u → LentS B w u x.2
theorem LentA.kp {t : TypeId} {B : Nat} {w w' : World} {v : Value} {al : List At} (h : LentA B w v al) (k : Kp t w w') (h1 : 51 ≠ t) (h2 : 9 ≠ t) : LentA B w' v al := by
  obtain ⟨g, cap, us, e, ho, hl, hs⟩ := h
  exact ⟨g, cap, us, e, k _ _ _ _ _ _ h1 ho, hl, fun j x u q1 q2 => (hs j x u q1 q2).kp k h2⟩
theorem LentA.form {B : Nat} {w : World} {v : Value} {al : List At} (h : LentA B w v al) : ∃ (g cap : Nat) (us : List Value), v = .slice (some ⟨g, 0, none⟩) al.length cap ∧ al.length + 1 ≤ cap ∧ w.cell? ⟨g, al.length * 2, none⟩ = some (.string ⟨#[109, 97, 114, 107]⟩) ∧ us.length = al.length ∧
    ∀ (j : Nat) (x : At), al[j]? = some x → w.cell? ⟨g, j * 2, none⟩ = some (.string ⟨x.1.toArray⟩) ∧ ∃ u, us[j]? = some u ∧ w.cell? ⟨g, j * 2 + 1, none⟩ = some u ∧ LentS B w u x.2 := by
  obtain ⟨g, cap, us, rfl, ho, hl, hs⟩ := h
  have hcap : al.length + 1 ≤ cap := by
    rcases id ho.2 with ⟨h1, _⟩ | ⟨g', cap', cur, hv, _, _, hc', _⟩
    · cases h1
    · cases hv; exact hc'
  have hf := flatA_length al us hl
  refine ⟨g, cap, us, rfl, hcap, (own_cell ho ?_).1, hl, fun j x hx => ?_⟩
  · rw [List.getElem?_append_right (by omega), hf, Nat.sub_self]; rfl
  · have hj := (List.getElem?_eq_some_iff.1 hx).1
    obtain ⟨u, hu⟩ : ∃ u, us[j]? = some u := ⟨us[j]'(by omega), List.getElem?_eq_getElem _⟩
    obtain ⟨g1, g2⟩ := flatA_get al us j x u hx hu
    exact ⟨(own_cell ho (by rw [List.getElem?_append_left (by omega)]; exact g1)).1, u, hu, (own_cell ho (by rw [List.getElem?_append_left (by omega)]; exact g2)).1, hs j x u hx hu⟩
theorem LentA.attrs {B : Nat} {w : World} {v : Value} {al : List At} (h : LentA B w v al) : AttrsAt w v al := by
  obtain ⟨g, cap, us, rfl, hc, _, _, hs⟩ := h.form
  refine ⟨some ⟨g, 0, none⟩, cap, rfl, by omega, fun _ => ⟨g, 0, rfl, fun j x hx => ?_⟩⟩
  obtain ⟨h1, u, _, h2, h3⟩ := hs j x hx
  exact ⟨by rw [Nat.zero_add]; exact h1, u, by rw [Nat.zero_add]; exact h2, h3.strs⟩
/-- Changes with a mark behind them. -/
def LentM (B : Nat) (w : World) (v : Value) (ml : List Md) : Prop :=
  ∃ g cap us, v = .slice (some ⟨g, 0, none⟩) ml.length cap ∧ w.ownsRow B 53 3 (.slice (some ⟨g, 0, none⟩) (ml.length + 1) cap) (ml.length + 1) (flatM ml us ++ [.int .i64 0, .string ⟨#[109, 97, 114, 107]⟩, .slice none 0 0]) ∧ us.length = ml.length ∧
    ∀ (j : Nat) (x : Md) (u : Value), ml[j]? = some x → us[j]? = some u → w.ownsRow B 9 1 u x.2.2.length (sV x.2.2)
theorem LentM.kp {t : TypeId} {B : Nat} {w w' : World} {v : Value} {ml : List Md} (h : LentM B w v ml) (k : Kp t w w') (h1 : 53 ≠ t) (h2 : 9 ≠ t) : LentM B w' v ml := by
  obtain ⟨g, cap, us, e, ho, hl, hs⟩ := h
  exact ⟨g, cap, us, e, k _ _ _ _ _ _ h1 ho, hl, fun j x u q1 q2 => k _ _ _ _ _ _ h2 (hs j x u q1 q2)⟩
theorem LentM.form {B : Nat} {w : World} {v : Value} {ml : List Md} (h : LentM B w v ml) : ∃ g cap, v = .slice (some ⟨g, 0, none⟩) ml.length cap ∧ ml.length + 1 ≤ cap ∧ w.cell? ⟨g, ml.length * 3 + 1, none⟩ = some (.string ⟨#[109, 97, 114, 107]⟩) := by
  obtain ⟨g, cap, us, rfl, ho, hl, hs⟩ := h
  have hcap : ml.length + 1 ≤ cap := by
    rcases id ho.2 with ⟨h1, _⟩ | ⟨g', cap', cur, hv, _, _, hc', _⟩
    · cases h1
    · cases hv; exact hc'
  have hf := flatM_length ml us hl
  refine ⟨g, cap, rfl, hcap, (own_cell ho ?_).1⟩
  rw [List.getElem?_append_right (by omega), hf, show ml.length * 3 + 1 - ml.length * 3 = 1 by omega]; rfl
theorem LentM.mods {B : Nat} {w : World} {v : Value} {ml : List Md} (h : LentM B w v ml) : ModsAt w v ml := by
  obtain ⟨g, cap, us, rfl, ho, hl, hs⟩ := h
  have hcap : ml.length + 1 ≤ cap := by
    rcases id ho.2 with ⟨h1, _⟩ | ⟨g', cap', cur, hv, _, _, hc', _⟩
    · cases h1
    · cases hv; exact hc'
  have hf := flatM_length ml us hl
  refine ⟨some ⟨g, 0, none⟩, cap, rfl, by omega, fun _ => ⟨g, 0, rfl, fun j x hx => ?_⟩⟩
  have hj := (List.getElem?_eq_some_iff.1 hx).1
  obtain ⟨u, hu⟩ : ∃ u, us[j]? = some u := ⟨us[j]'(by omega), List.getElem?_eq_getElem _⟩
  obtain ⟨g1, g2, g3⟩ := flatM_get ml us j x u hx hu
  refine ⟨by rw [Nat.zero_add]; exact (own_cell ho (by rw [List.getElem?_append_left (by omega)]; exact g1)).1, by rw [Nat.zero_add]; exact (own_cell ho (by rw [List.getElem?_append_left (by omega)]; exact g2)).1, u, by rw [Nat.zero_add]; exact (own_cell ho (by rw [List.getElem?_append_left (by omega)]; exact g3)).1, ?_⟩
  exact strs_own rfl (hs j x u hx hu) (fun i y hi => by simp [sV, hi])
/-- No filters, a mark behind them; no controls, a mark behind them. -/
def LentF (B : Nat) (w : World) (v : Value) : Prop :=
  ∃ g cap, v = .slice (some ⟨g, 0, none⟩) 0 cap ∧ w.ownsRow B 55 7 (.slice (some ⟨g, 0, none⟩) 1 cap) 1 [.int .i64 0, .int .i64 0, .string ⟨#[109, 97, 114, 107]⟩, .string ⟨#[]⟩, .string ⟨#[]⟩, .string ⟨#[]⟩, .slice none 0 0]
def LentC (B : Nat) (w : World) (v : Value) : Prop :=
  ∃ g cap, v = .slice (some ⟨g, 0, none⟩) 0 cap ∧ w.ownsRow B 57 4 (.slice (some ⟨g, 0, none⟩) 1 cap) 1 [.string ⟨#[109, 97, 114, 107]⟩, .bool false, .bool false, .string ⟨#[]⟩]
theorem LentF.kp {t : TypeId} {B : Nat} {w w' : World} {v : Value} (h : LentF B w v) (k : Kp t w w') (h1 : 55 ≠ t) : LentF B w' v := by
  obtain ⟨g, cap, e, ho⟩ := h
  exact ⟨g, cap, e, k _ _ _ _ _ _ h1 ho⟩
theorem LentC.kp {t : TypeId} {B : Nat} {w w' : World} {v : Value} (h : LentC B w v) (k : Kp t w w') (h1 : 57 ≠ t) : LentC B w' v := by
  obtain ⟨g, cap, e, ho⟩ := h
  exact ⟨g, cap, e, k _ _ _ _ _ _ h1 ho⟩
theorem LentF.form {B : Nat} {w : World} {v : Value} (h : LentF B w v) : ∃ g cap, v = .slice (some ⟨g, 0, none⟩) 0 cap ∧ 1 ≤ cap ∧ w.cell? ⟨g, 2, none⟩ = some (.string ⟨#[109, 97, 114, 107]⟩) := by
  obtain ⟨g, cap, rfl, ho⟩ := h
  have hcap : 1 ≤ cap := by
    rcases id ho.2 with ⟨h1, _⟩ | ⟨g', cap', cur, hv, _, _, hc', _⟩
    · cases h1
    · cases hv; exact hc'
  exact ⟨g, cap, rfl, hcap, (own_cell ho rfl).1⟩
theorem LentC.form {B : Nat} {w : World} {v : Value} (h : LentC B w v) : ∃ g cap, v = .slice (some ⟨g, 0, none⟩) 0 cap ∧ 1 ≤ cap ∧ w.cell? ⟨g, 0, none⟩ = some (.string ⟨#[109, 97, 114, 107]⟩) := by
  obtain ⟨g, cap, rfl, ho⟩ := h
  have hcap : 1 ≤ cap := by
    rcases id ho.2 with ⟨h1, _⟩ | ⟨g', cap', cur, hv, _, _, hc', _⟩
    · cases h1
    · cases hv; exact hc'
  exact ⟨g, cap, rfl, hcap, (own_cell ho rfl).1⟩
theorem Tryd.infoFilter : (Tryd.prog.info? 55).map (fun i => (i.zero, i.size, i.bytes)) = some (some (.agg #[.int .i64 0, .int .i64 0, .string ⟨#[]⟩, .string ⟨#[]⟩, .string ⟨#[]⟩, .string ⟨#[]⟩, .slice none 0 0]), 7, 104) := by kernel_rfl
theorem Tryd.infoControl : (Tryd.prog.info? 57).map (fun i => (i.zero, i.size, i.bytes)) = some (some (.agg #[.string ⟨#[]⟩, .bool false, .bool false, .string ⟨#[]⟩]), 4, 40) := by kernel_rfl
end Go.Proofs.YtehpdodjncabkaaDoor
namespace Go.Proofs.YtehpdodjncabkaaDoor
open Go.RowKit Go.Lib

/-- The message as it stands in its block while it is lent, and the answer's block. -/
structure LnS (w : World) (f s m a c : Value) (wr : World) : Prop where
  hb : Below w.heap.size w wr
  hr : wr.heap[w.heap.size]? = some (.cells (msgR f s m a c) 32 (0, 0))
  hz : wr.heap[w.heap.size + 1]? = some (.cells (msgR (.slice none 0 0) (.slice none 0 0) (.slice none 0 0) (.slice none 0 0) (.slice none 0 0)) 32 (0, 0))
theorem LnS.below {w wr w' : World} {f s m a c : Value} (h : LnS w f s m a c wr) (hb : Below wr.heap.size wr w') : LnS w f s m a c w' :=
  ⟨below_ext h.hb hb, (hb.block _ (Array.getElem?_eq_some_iff.1 h.hr).1).trans h.hr, (hb.block _ (Array.getElem?_eq_some_iff.1 h.hz).1).trans h.hz⟩
theorem LnS.drew {w wr : World} {f s m a c : Value} (h : LnS w f s m a c wr) : LnS w f s m a c wr.drew := ⟨h.hb.drew, h.hr, h.hz⟩
theorem LnS.grown {w wr w' : World} {f s m a c : Value} (h : LnS w f s m a c wr) {e : TypeId} {size n : Nat} {v : Value} {xs : List Value} (ho : wr.ownsRow w.heap.size e size v n xs) (he : e ≠ 32) (hg : wr.grownBy w' v.ownBlock) : LnS w f s m a c w' :=
  ⟨h.hb.grown hg h.hb.size (fun b hb => (ho.lt b hb).1), (hg.block _ (Array.getElem?_eq_some_iff.1 h.hr).1 (fun e => own_ne ho h.hr he e.symm)).trans h.hr, (hg.block _ (Array.getElem?_eq_some_iff.1 h.hz).1 (fun e => own_ne ho h.hz he e.symm)).trans h.hz⟩
theorem LnS.set11 {w wr : World} {f s m a c : Value} (h : LnS w f s m a c wr) (x : Value) : LnS w x s m a c (wr.setCell ⟨w.heap.size, 11, none⟩ x) :=
  ⟨h.hb.setCell (p := ⟨w.heap.size, 11, none⟩) (Nat.le_refl _) _, setCell_at (i := 11) (u := x) h.hr, (Below.heap_setCell wr ⟨w.heap.size, 11, none⟩ x (w.heap.size + 1) (by show w.heap.size + 1 ≠ w.heap.size; omega)).trans h.hz⟩
theorem LnS.set12 {w wr : World} {f s m a c : Value} (h : LnS w f s m a c wr) (x : Value) : LnS w f x m a c (wr.setCell ⟨w.heap.size, 12, none⟩ x) :=
  ⟨h.hb.setCell (p := ⟨w.heap.size, 12, none⟩) (Nat.le_refl _) _, setCell_at (i := 12) (u := x) h.hr, (Below.heap_setCell wr ⟨w.heap.size, 12, none⟩ x (w.heap.size + 1) (by show w.heap.size + 1 ≠ w.heap.size; omega)).trans h.hz⟩
theorem LnS.set13 {w wr : World} {f s m a c : Value} (h : LnS w f s m a c wr) (x : Value) : LnS w f s x a c (wr.setCell ⟨w.heap.size, 13, none⟩ x) :=
  ⟨h.hb.setCell (p := ⟨w.heap.size, 13, none⟩) (Nat.le_refl _) _, setCell_at (i := 13) (u := x) h.hr, (Below.heap_setCell wr ⟨w.heap.size, 13, none⟩ x (w.heap.size + 1) (by show w.heap.size + 1 ≠ w.heap.size; omega)).trans h.hz⟩
theorem LnS.set14 {w wr : World} {f s m a c : Value} (h : LnS w f s m a c wr) (x : Value) : LnS w f s m x c (wr.setCell ⟨w.heap.size, 14, none⟩ x) :=
  ⟨h.hb.setCell (p := ⟨w.heap.size, 14, none⟩) (Nat.le_refl _) _, setCell_at (i := 14) (u := x) h.hr, (Below.heap_setCell wr ⟨w.heap.size, 14, none⟩ x (w.heap.size + 1) (by show w.heap.size + 1 ≠ w.heap.size; omega)).trans h.hz⟩
theorem LnS.set27 {w wr : World} {f s m a c : Value} (h : LnS w f s m a c wr) (x : Value) : LnS w f s m a x (wr.setCell ⟨w.heap.size, 27, none⟩ x) :=
  ⟨h.hb.setCell (p := ⟨w.heap.size, 27, none⟩) (Nat.le_refl _) _, setCell_at (i := 27) (u := x) h.hr, (Below.heap_setCell wr ⟨w.heap.size, 27, none⟩ x (w.heap.size + 1) (by show w.heap.size + 1 ≠ w.heap.size; omega)).trans h.hz⟩
theorem LnS.other {w wr : World} {f s m a c x : Value} {g i : Nat} {cs : Array Value} {t : TypeId} (h : LnS w f s m a c wr) (hg : wr.heap[g]? = some (.cells cs t (0, 0))) (ht : t ≠ 32) (hb : w.heap.size ≤ g) : LnS w f s m a c (wr.setCell ⟨g, i, none⟩ x) :=
  ⟨h.hb.setCell (p := ⟨g, i, none⟩) hb _, (Below.heap_setCell wr ⟨g, i, none⟩ x w.heap.size (by intro e; change w.heap.size = g at e; rw [← e, h.hr] at hg; cases hg; exact ht rfl)).trans h.hr, (Below.heap_setCell wr ⟨g, i, none⟩ x (w.heap.size + 1) (by intro e; change w.heap.size + 1 = g at e; rw [← e, h.hz] at hg; cases hg; exact ht rfl)).trans h.hz⟩
theorem Kp.trans {t : TypeId} {a b c : World} (h : Kp t a b) (k : Kp t b c) : Kp t a c := fun _ _ _ _ _ _ ht ho => k _ _ _ _ _ _ ht (h _ _ _ _ _ _ ht ho)
/-- Behind k attributes that were lent. -/
def LnRel (w : World) (al : List At) (ml : List Md) (uM uA i : Value) (wr : World) : Prop :=
  ∃ (k : Nat) (us um : List Value), i = .int .i64 (k : Int) ∧ k ≤ al.length ∧ LnS w (.slice none 0 0) (.slice none 0 0) uM uA (.slice none 0 0) wr ∧ wr.ownsRow w.heap.size 51 2 uA al.length (flatA al us) ∧ us.length = al.length ∧ OwnM w.heap.size wr uM ml um ∧
    (∀ (j : Nat) (x : At) (u : Value), j < k → al[j]? = some x → us[j]? = some u → LentS w.heap.size wr u x.2) ∧
    (∀ (j : Nat) (x : At) (u : Value), k ≤ j → al[j]? = some x → us[j]? = some u → wr.ownsRow w.heap.size 9 1 u x.2.length (sV x.2))
set_option maxRecDepth 100000 in
set_option maxHeartbeats 8000000 in
theorem Lent_any (vA vM : Value) (al : List At) (ml : List Md) (w : World) (hA : AttrsAt w vA al) (hM : ModsAt w vM ml) (hal : al.length ≤ 1000000000) (hav : ∀ x ∈ al, x.2.length ≤ 1000000000) (hml : ml.length ≤ 1000000000) (hmv : ∀ x ∈ ml, x.2.2.length ≤ 1000000000) :
    Calls Tryd.prog 9 #[.agg (msgR (.slice none 0 0) (.slice none 0 0) vM vA (.slice none 0 0))] w fun e w' => (∃ uF uS uM uA uC, e = .returned (.agg (msgR uF uS uM uA uC)) ∧ LentF w.heap.size w' uF ∧ LentS w.heap.size w' uS [] ∧ LentM w.heap.size w' uM ml ∧ LentA w.heap.size w' uA al ∧ LentC w.heap.size w' uC) ∧ Below w.heap.size w w' := by
  have HV := Lib.hid hav
  obtain ⟨iA, hiA, hA0, hA1, hA2⟩ := info_parts Tryd.infoAttr
  obtain ⟨iM, hiM, hM0, hM1, hM2⟩ := info_parts Tryd.infoMod
  obtain ⟨iF, hiF, hF0, hF1, hF2⟩ := info_parts Tryd.infoFilter
  obtain ⟨iC, hiC, hC0, hC1, hC2⟩ := info_parts Tryd.infoControl
  have H0 : LnS w (.slice none 0 0) (.slice none 0 0) vM vA (.slice none 0 0) ((w.alloc (.cells #[.int .i64 0, .int .i64 0, .string ⟨#[]⟩, .int .i64 0, .bool false, .string ⟨#[]⟩, .int .i64 0, .int .i64 0, .int .i64 0, .int .i64 0, .bool false, .slice none 0 0, .slice none 0 0, vM, vA, .string ⟨#[]⟩, .string ⟨#[]⟩, .bool false, .bool false, .string ⟨#[]⟩, .string ⟨#[]⟩, .string ⟨#[]⟩, .bool false, .int .i64 0, .int .i64 0, .string ⟨#[]⟩, .string ⟨#[]⟩, .slice none 0 0] 32)).alloc (.cells #[.int .i64 0, .int .i64 0, .string ⟨#[]⟩, .int .i64 0, .bool false, .string ⟨#[]⟩, .int .i64 0, .int .i64 0, .int .i64 0, .int .i64 0, .bool false, .slice none 0 0, .slice none 0 0, .slice none 0 0, .slice none 0 0, .string ⟨#[]⟩, .string ⟨#[]⟩, .bool false, .bool false, .string ⟨#[]⟩, .string ⟨#[]⟩, .string ⟨#[]⟩, .bool false, .int .i64 0, .int .i64 0, .string ⟨#[]⟩, .string ⟨#[]⟩, .slice none 0 0] 32)) := ⟨((Below.refl _ _).alloc (Nat.le_refl _) _).alloc (by simp) _, (Lib.alloc_old _ _ _ (by simp)).trans (alloc_at _ _ _ rfl), alloc_at _ _ _ (by simp)⟩
  have kc : ∀ W : World, LnS w (.slice none 0 0) (.slice none 0 0) vM vA (.slice none 0 0) W → Calls Tryd.prog 18 #[.agg (msgR (.slice none 0 0) (.slice none 0 0) vM vA (.slice none 0 0))] W fun e w' => (∃ uA uM us um, e = .returned (.agg (msgR (.slice none 0 0) (.slice none 0 0) uM uA (.slice none 0 0))) ∧ OwnA W.heap.size w' uA al us ∧ OwnM W.heap.size w' uM ml um) ∧ Below W.heap.size W w' :=
    fun W h => CopyMessage_any 0 0 [] 0 false [] 0 0 0 0 false [] [] false false [] [] [] false 0 0 [] [] vA vM al ml W (hA.below h.hb) (hM.below h.hb) hal hav hml hmv
  clear hA hM hav hmv
  unfold msgR
  go_enter Tryd.func9, Tryd.ntmps9
  refine wp_seq ?_
  refine wp_region_list ?_
  refine wpList_plain rfl fun K hK => ?_
  go_simp
  refine hK _ _ ?_; clear hK K
  refine wpList_plain rfl fun K hK => ?_
  go_simp
  refine hK _ _ ?_; clear hK K
  generalize ((w.alloc (.cells #[.int .i64 0, .int .i64 0, .string ⟨#[]⟩, .int .i64 0, .bool false, .string ⟨#[]⟩, .int .i64 0, .int .i64 0, .int .i64 0, .int .i64 0, .bool false, .slice none 0 0, .slice none 0 0, vM, vA, .string ⟨#[]⟩, .string ⟨#[]⟩, .bool false, .bool false, .string ⟨#[]⟩, .string ⟨#[]⟩, .string ⟨#[]⟩, .bool false, .int .i64 0, .int .i64 0, .string ⟨#[]⟩, .string ⟨#[]⟩, .slice none 0 0] 32)).alloc (.cells #[.int .i64 0, .int .i64 0, .string ⟨#[]⟩, .int .i64 0, .bool false, .string ⟨#[]⟩, .int .i64 0, .int .i64 0, .int .i64 0, .int .i64 0, .bool false, .slice none 0 0, .slice none 0 0, .slice none 0 0, .slice none 0 0, .string ⟨#[]⟩, .string ⟨#[]⟩, .bool false, .bool false, .string ⟨#[]⟩, .string ⟨#[]⟩, .string ⟨#[]⟩, .bool false, .int .i64 0, .int .i64 0, .string ⟨#[]⟩, .string ⟨#[]⟩, .slice none 0 0] 32)) = w2 at H0 ⊢
  refine wpList_nil ?_
  simp only [Exit.then]
  refine wp_seq ?_
  refine wp_region_list ?_
  refine wpList_loadRow rfl 32 (.tmp 1) rfl w.heap.size 32 _ (0, 0) (by rfl) H0.hr _ Tryd.underlying32 rfl (by rfl) ?_
  refine wpList_plain rfl fun K hK => ?_
  go_simp
  refine Calls.mono (show Calls _ _ _ _ _ from kc _ H0) ?_
  rintro e w3 ⟨⟨uA, uM, us, um, rfl, hoA, hoM⟩, hb3⟩
  have H3 := H0.below hb3
  have hoA3 : OwnA w.heap.size w3 uA al us := hoA.mono H0.hb.size
  have hoM3 : OwnM w.heap.size w3 uM ml um := hoM.mono H0.hb.size
  clear hoA hoM kc H0 hb3
  obtain ⟨aU, cU, hfU⟩ := own_shape hoM3.1
  obtain ⟨aV, cV, hfV⟩ := own_shape hoA3.1
  subst hfU hfV
  refine hK _ _ ?_; clear hK K
  refine wpList_storeRow rfl 32 (.tmp 1) (.tmp 5) rfl w.heap.size 32 _ (msgR (.slice none 0 0) (.slice none 0 0) (.slice aU ml.length cU) (.slice aV al.length cV) (.slice none 0 0)) (by rfl) (by rfl) H3.hr (by rfl) rfl (by simp [msgR, Value.oneCell']) ?_
  have H4 : LnS w (.slice none 0 0) (.slice none 0 0) (.slice aU ml.length cU) (.slice aV al.length cV) (.slice none 0 0) (w3.setRow w.heap.size (msgR (.slice none 0 0) (.slice none 0 0) (.slice aU ml.length cU) (.slice aV al.length cV) (.slice none 0 0))) :=
    ⟨below_row H3.hb (Nat.le_refl _) _, setRow_heap w3 w.heap.size _ _ _ _ H3.hr, (setRow_other w3 w.heap.size (w.heap.size + 1) _ (by omega)).trans H3.hz⟩
  have hoA4 := hoA3.row (x := msgR (.slice none 0 0) (.slice none 0 0) (.slice aU ml.length cU) (.slice aV al.length cV) (.slice none 0 0)) H3.hr (by decide) (by decide)
  have hoM4 := hoM3.row (x := msgR (.slice none 0 0) (.slice none 0 0) (.slice aU ml.length cU) (.slice aV al.length cV) (.slice none 0 0)) H3.hr (by decide) (by decide)
  generalize w3.setRow w.heap.size (msgR (.slice none 0 0) (.slice none 0 0) (.slice aU ml.length cU) (.slice aV al.length cV) (.slice none 0 0)) = w4 at H4 hoA4 hoM4 ⊢
  clear H3 hoA3 hoM3
  refine wpList_nil ?_
  simp only [Exit.then]
  go_wp2_with fail
  go_loopw [3] (fun i wr => LnRel w al ml (.slice aU ml.length cU) (.slice aV al.length cV) i wr) (fun i _ => al.length - (RowKit.intOf i).toNat)
  case atStart => exact ⟨0, us, um, rfl, Nat.zero_le _, H4, hoA4.1, hoA4.2.1, hoM4, fun j x u h => by omega, fun j x u _ h1 h2 => hoA4.2.2 j x u h1 h2⟩
  case round =>
    clear H4 hoA4 hoM4 us um
    obtain ⟨k, us, um, rfl, hk, hS, hA, hul, hM, hdone, hleft⟩ := hrel
    obtain ⟨c11, c12, c13, c14, c27⟩ := msgR_cells hS.hr
    by_cases hkl : k < al.length
    · obtain ⟨x, hx⟩ : ∃ x, al[k]? = some x := ⟨al[k], List.getElem?_eq_getElem hkl⟩
      obtain ⟨u, hu⟩ : ∃ u, us[k]? = some u := ⟨us[k]'(by omega), List.getElem?_eq_getElem (by omega)⟩
      obtain ⟨g, cur, rfl, hbg, hgb⟩ : ∃ g cur, aV = some ⟨g, 0, none⟩ ∧ w.heap.size ≤ g ∧ wr.heap[g]? = some (.cells cur 51 (0, 0)) := by
        rcases id hA.2 with ⟨_, h0⟩ | ⟨g, cap', cur, h1, h2, h3, h4, _⟩
        · omega
        · cases h1; exact ⟨g, cur, rfl, h2, h3⟩
      obtain ⟨f0, f1⟩ := flatA_get al us k x u hx hu
      obtain ⟨q1, _⟩ := own_cell hA f1
      have hxv := HV.out x (List.mem_of_getElem? hx)
      have hsu : StrsAt wr.drew u x.2 := strs_own rfl (hleft k x u (Nat.le_refl _) hx hu) (fun i y hi => by simp [sV, hi])
      obtain ⟨au, cu, hfu⟩ : ∃ a c, u = .slice a x.2.length c := own_shape (hleft k x u (Nat.le_refl _) hx hu)
      subst hfu
      have kc := LentTexts_any _ x.2 wr.drew hsu hxv
      have i1 : (k : Int) < (al.length : Int) := by omega
      have i3 : decide ((k : Int) < (al.length : Int)) = true := decide_eq_true i1
      have HX := Lib.hid hx
      have HU := Lib.hid hu
      have HD := Lib.hid hdone
      have HL := Lib.hid hleft
      have HA := Lib.hid hA
      have HM := Lib.hid hM
      have HS := Lib.hid hS.drew
      have hszr := hS.hb.size
      have s14 : wr.drew.cell? ⟨w.heap.size, 14, none⟩ = some (.slice (some ⟨g, 0, none⟩) al.length cV) := c14
      have su : wr.drew.cell? ⟨g, k * 2 + 1, none⟩ = some (.slice au x.2.length cu) := q1
      have hgd : wr.drew.heap[g]? = some (.cells cur 51 (0, 0)) := hgb
      clear hx hu f0 f1 hdone hleft hA hM hS hsu c11 c12 c13 c27
      go_wp2_with fail
      refine region_anyT (S := fun w' => w'.cell? ⟨w.heap.size, 14, none⟩ = some (.slice (some ⟨g, 0, none⟩) al.length cV) ∧ w'.cell? ⟨g, k * 2 + 1, none⟩ = some (.slice au x.2.length cu)) (st := 12) (by kernel_rfl) ?_
      clear c14 q1 hgb
      refine anyT_free 0 (.pointer (some ⟨w.heap.size, 14, none⟩)) rfl (by decide) (by kernel_rfl) (by kernel_rfl) (by kernel_rfl) (fun _ _ _ h => h) (by rfl) (fun w' => by go_simp) (.inr ⟨s14, su⟩) (fun K hK => ?_); go_simp; refine hK _ _ ?_; clear hK K
      refine anyT_free 2 (.int .i64 (k : Int)) rfl (by decide) (by kernel_rfl) (by kernel_rfl) (by kernel_rfl) (fun _ _ _ h => h) (by rfl) (fun w' => by go_simp) (.inr ⟨s14, su⟩) (fun K hK => ?_); go_simp; refine hK _ _ ?_; clear hK K
      refine anyT_free 3 (.pointer (some ⟨w.heap.size, 14, none⟩)) rfl (by decide) (by kernel_rfl) (by kernel_rfl) (by kernel_rfl) (fun _ _ _ h => h) (by rfl) (fun w' => by go_simp) (.inr ⟨s14, su⟩) (fun K hK => ?_); go_simp; refine hK _ _ ?_; clear hK K
      refine anyT_free 5 (.int .i64 (k : Int)) rfl (by decide) (by kernel_rfl) (by kernel_rfl) (by kernel_rfl) (fun _ _ _ h => h) (by rfl) (fun w' => by go_simp) (.inr ⟨s14, su⟩) (fun K hK => ?_); go_simp; refine hK _ _ ?_; clear hK K
      refine anyT_take 1 (.slice (some ⟨g, 0, none⟩) al.length cV) rfl (by decide) rfl (by kernel_rfl) (by kernel_rfl) (by kernel_rfl) (by kernel_rfl) (fun _ _ _ h => h) (by rfl) (fun w' hS => by obtain ⟨q0, q1⟩ := hS; go_simp) (by rfl) ⟨s14, su⟩ (fun K hK => ?_); go_simp; refine hK _ _ ?_; clear hK K
      refine anyT_take 4 (.slice (some ⟨g, 0, none⟩) al.length cV) rfl (by decide) rfl (by kernel_rfl) (by kernel_rfl) (by kernel_rfl) (by kernel_rfl) (fun _ _ _ h => h) (by rfl) (fun w' hS => by obtain ⟨q0, q1⟩ := hS; go_simp) (by rfl) ⟨s14, su⟩ (fun K hK => ?_); go_simp; refine hK _ _ ?_; clear hK K
      refine anyT_one 6 (by kernel_rfl) rfl (by rfl) (fun K hK => ?_); go_simp; refine hK _ _ (.inr ⟨s14, su⟩) ?_; clear hK K
      refine anyT_one 7 (by kernel_rfl) rfl (by rfl) (fun K hK => ?_); go_simp; refine hK _ _ (.inr ⟨s14, su⟩) ?_; clear hK K
      refine anyT_one 8 (by kernel_rfl) rfl (by rfl) (fun K hK => ?_); go_simp; refine hK _ _ (.inr ⟨s14, su⟩) ?_; clear hK K
      refine anyT_one 9 (by kernel_rfl) rfl (by rfl) (fun K hK => ?_); go_simp
      go_wp2_with fail
      refine Calls.mono (show Calls _ _ _ _ _ from kc) ?_
      rintro e w5 ⟨⟨u5, rfl, hu5⟩, hb5⟩
      have s14' := (hb5.cell (lt_of_cell s14)).trans s14
      have su' := (hb5.cell (lt_of_cell su)).trans su
      have hg5 := (hb5.block g (Array.getElem?_eq_some_iff.1 hgd).1).trans hgd
      refine hK _ _ (.inr ⟨s14', su'⟩) ?_; clear hK K
      have hown5 := own_below (show wr.drew.ownsRow _ _ _ _ _ _ from HA.out) hb5
      have hst5 := HS.out.below hb5
      obtain ⟨g5, cap5, hf5, ho5⟩ := id hu5
      subst hf5
      clear s14 su hgd kc ho5
      refine anyT_one 10 (by kernel_rfl) rfl (by rfl) (fun K hK => ?_); go_simp; refine hK _ _ (.inr ⟨s14', su'⟩) ?_; clear hK K
      refine anyT_one 11 (by kernel_rfl) rfl (by rfl) (fun K hK => ?_); go_simp; refine hK _ _ (.inr ⟨s14', su'⟩) ?_; clear hK K
      have z := Lib.frozen_of_heap hg5 (k * 2 + 1)
      refine anyT_one 12 (by kernel_rfl) rfl (by rfl) (fun K hK => ?_); go_simp; refine hK _ _ (.inl (by rfl)) ?_; clear hK K
      have hset := own_set (x := (.slice (some ⟨g5, 0, none⟩) x.2.length cap5)) hown5 (show k * 2 + 1 < (flatA al us).length by rw [flatA_length al us hul]; omega)
      rw [flatA_put al us k (.slice (some ⟨g5, 0, none⟩) x.2.length cap5) hul hkl] at hset
      have hS6 := hst5.other (i := k * 2 + 1) (x := .slice (some ⟨g5, 0, none⟩) x.2.length cap5) hg5 (by decide) hbg
      have K5 : Kp 51 wr.drew w5 := Kp.below hb5
      have K6 : Kp 51 w5 (w5.setCell ⟨g, k * 2 + 1, none⟩ (.slice (some ⟨g5, 0, none⟩) x.2.length cap5)) := Kp.set hg5
      have K7 := K5.trans K6
      have hM6 := (show OwnM _ wr.drew _ _ _ from HM.out).kp K7 (by decide) (by decide)
      have hdone6 : ∀ (j : Nat) (y : At) (v : Value), j < k + 1 → al[j]? = some y → (us.set k (.slice (some ⟨g5, 0, none⟩) x.2.length cap5))[j]? = some v → LentS w.heap.size (w5.setCell ⟨g, k * 2 + 1, none⟩ (.slice (some ⟨g5, 0, none⟩) x.2.length cap5)) v y.2 := by
        intro j y v hj hy hv
        by_cases hjk : j = k
        · subst hjk
          rw [List.getElem?_set_self (by omega)] at hv
          cases hv
          rw [HX.out] at hy
          cases hy
          exact (hu5.mono HS.out.hb.size).kp K6 (by decide)
        · rw [List.getElem?_set_ne (fun e => hjk e.symm)] at hv
          exact (show LentS _ wr.drew _ _ from HD.out j y v (by omega) hy hv).kp K7 (by decide)
      have hleft6 : ∀ (j : Nat) (y : At) (v : Value), k + 1 ≤ j → al[j]? = some y → (us.set k (.slice (some ⟨g5, 0, none⟩) x.2.length cap5))[j]? = some v → (w5.setCell ⟨g, k * 2 + 1, none⟩ (.slice (some ⟨g5, 0, none⟩) x.2.length cap5)).ownsRow w.heap.size 9 1 v y.2.length (sV y.2) := by
        intro j y v hj hy hv
        rw [List.getElem?_set_ne (by omega)] at hv
        exact K7 _ _ _ _ _ _ (by decide) (show wr.drew.ownsRow _ _ _ _ _ _ from HL.out j y v (by omega) hy hv)
      have REST : LnRel w al ml (.slice aU ml.length cU) (.slice (some ⟨g, 0, none⟩) al.length cV) (.int .i64 ((k + 1 : Nat) : Int)) (w5.setCell ⟨g, k * 2 + 1, none⟩ (.slice (some ⟨g5, 0, none⟩) x.2.length cap5)) :=
        ⟨k + 1, us.set k (.slice (some ⟨g5, 0, none⟩) x.2.length cap5), um, rfl, by omega, hS6, hset, by rw [List.length_set]; exact hul, hM6, hdone6, hleft6⟩
      generalize w5.setCell ⟨g, k * 2 + 1, none⟩ (.slice (some ⟨g5, 0, none⟩) x.2.length cap5) = w6 at REST ⊢
      clear hset hS6 K5 K6 K7 hM6 hdone6 hleft6 hst5 hown5 hg5 hu5 s14' su' z hb5
      refine anyT_done (by kernel_rfl) ?_ _
      simp only [Exit.inBlock, Exit.then]
      refine ‹∀ (a : Act) (w : World), Code.wp _ _ _ a w → _› _ _ ?_
      go_wp2_with fail
      exact ⟨(show ((k : Int) + 1) = ((k + 1 : Nat) : Int) by omega) ▸ REST, by simp [RowKit.intOf]; omega⟩
    · obtain rfl : k = al.length := by omega
      have hD : ∀ (j : Nat) (x : At) (u : Value), al[j]? = some x → us[j]? = some u → LentS w.heap.size wr u x.2 := fun j x u q1 q2 => hdone j x u (List.getElem?_eq_some_iff.1 q1).1 q1 q2
      have kn := LentTexts_any (.slice none 0 0) [] wr ⟨none, 0, rfl, Nat.le_refl _, fun h => absurd rfl h⟩ (by simp)
      have i3 : decide ((al.length : Int) < (al.length : Int)) = false := decide_eq_false (by omega)
      clear hdone hleft c11 c13 c27 HV hk hkl
      have HD := Lib.hid hD
      have HA := Lib.hid hA
      have HM := Lib.hid hM
      have HS := Lib.hid hS
      clear hD hA hM hS
      go_wp2_with fail
      refine Calls.mono (show Calls _ _ _ _ _ from kn) ?_
      rintro e w5 ⟨⟨uS, rfl, hu5⟩, hb5⟩
      have hS5 := HS.out.below hb5
      obtain ⟨gS, capS, hfS, _⟩ := id hu5
      simp only [List.length_nil] at hfS
      subst hfS
      have z := Lib.frozen_of_heap hS5.hr 12
      have sc := (msgR_cells hS5.hr).2.1
      clear kn c12 c14
      have K5 : Kp 32 wr w5 := Kp.below hb5
      have KS := K5.trans (Kp.set (i := 12) (x := .slice (some ⟨gS, 0, none⟩) 0 capS) hS5.hr)
      have FS := hS5.set12 (.slice (some ⟨gS, 0, none⟩) 0 capS)
      have PS := (hu5.mono HS.out.hb.size).kp (Kp.set (i := 12) (x := .slice (some ⟨gS, 0, none⟩) 0 capS) hS5.hr) (by decide)
      have PA := KS _ _ _ _ _ _ (by decide) HA.out
      have PM := HM.out.kp KS (by decide) (by decide)
      have PD : ∀ (j : Nat) (x : At) (u : Value), al[j]? = some x → us[j]? = some u → LentS w.heap.size (w5.setCell ⟨w.heap.size, 12, none⟩ (.slice (some ⟨gS, 0, none⟩) 0 capS)) u x.2 := fun j x u q1 q2 => (HD.out j x u q1 q2).kp KS (by decide)
      have QS := Lib.hid FS
      have QA := Lib.hid PA
      have QM := Lib.hid PM
      have QD := Lib.hid PD
      have QT := Lib.hid PS
      clear FS PA PM PD PS K5 KS hu5 hb5 hS5 HD HA HM HS
      go_wp2_with fail
      clear z sc
      generalize w5.setCell ⟨w.heap.size, 12, none⟩ (.slice (some ⟨gS, 0, none⟩) 0 capS) = w6 at QS QA QM QD QT ⊢
      have FS := QS.out
      have PA := QA.out
      have PM := QM.out
      have PD := QD.out
      have PS := QT.out
      clear QS QA QM QD QT

      have s0 := (msgR_cells FS.hr).2.2.2.1
      refine region_anyT (S := fun w' => w'.cell? ⟨w.heap.size, 14, none⟩ = some (.slice aV al.length cV)) (st := 10) (by kernel_rfl) ?_
      have G0 : LnS w _ _ _ _ _ w6.drew := FS.drew
      have s1 : w6.drew.cell? ⟨w.heap.size, 14, none⟩ = some (.slice aV al.length cV) := s0
      have GPD : ∀ (j : Nat) (x : At) (u : Value), al[j]? = some x → us[j]? = some u → LentS w.heap.size w6.drew u x.2 := PD
      have GPM : OwnM w.heap.size w6.drew (.slice aU ml.length cU) ml um := PM
      have GPS : LentS w.heap.size w6.drew (.slice (some ⟨gS, 0, none⟩) 0 capS) [] := PS
      have GPA : w6.drew.ownsRow w.heap.size 51 2 (.slice aV al.length cV) al.length (flatA al us) := PA
      clear s0 FS PD PM PS PA
      generalize w6.drew = w7 at G0 s1 GPD GPM GPS GPA ⊢
      refine anyT_free 0 (.pointer (some ⟨w.heap.size, 14, none⟩)) rfl (by decide) (by kernel_rfl) (by kernel_rfl) (by kernel_rfl) (fun _ _ _ h => h) (by rfl) (fun w' => by go_simp) (.inr s1) (fun K hK => ?_); go_simp; refine hK _ _ ?_; clear hK K
      refine anyT_free 2 (.agg #[.string ⟨#[109, 97, 114, 107]⟩, .slice none 0 0]) rfl (by decide) (by kernel_rfl) (by kernel_rfl) (by kernel_rfl) (fun _ _ _ h => h) (by rfl) (fun w' => by go_simp) (.inr s1) (fun K hK => ?_); go_simp; refine hK _ _ ?_; clear hK K
      refine anyT_free 5 (.pointer (some ⟨w.heap.size, 14, none⟩)) rfl (by decide) (by kernel_rfl) (by kernel_rfl) (by kernel_rfl) (fun _ _ _ h => h) (by rfl) (fun w' => by go_simp) (.inr s1) (fun K hK => ?_); go_simp; refine hK _ _ ?_; clear hK K
      refine anyT_take 1 (.slice aV al.length cV) rfl (by decide) rfl (by kernel_rfl) (by kernel_rfl) (by kernel_rfl) (by kernel_rfl) (fun _ _ _ h => h) (by rfl) (fun w' hS => by go_simp) (by rfl) s1 (fun K hK => ?_); go_simp; refine hK _ _ ?_; clear hK K
      refine anyT_take 6 (.slice aV al.length cV) rfl (by decide) rfl (by kernel_rfl) (by kernel_rfl) (by kernel_rfl) (by kernel_rfl) (fun _ _ _ h => h) (by rfl) (fun w' hS => by go_simp) (by rfl) s1 (fun K hK => ?_); go_simp; refine hK _ _ ?_; clear hK K
      refine anyT_free 7 (.int .i64 (al.length)) rfl (by decide) (by kernel_rfl) (by kernel_rfl) (by kernel_rfl) (fun _ _ _ h => h) (by rfl) (fun w' => by go_simp) (.inr s1) (fun K hK => ?_); go_simp; refine hK _ _ ?_; clear hK K
      have hal8 : Below w7.heap.size w7 (w7.alloc (.cells #[.string ⟨#[109, 97, 114, 107]⟩, .slice none 0 0] 51)) := (Below.refl _ _).alloc (Nat.le_refl _) _
      have s2 := (hal8.cell (lt_of_cell s1)).trans s1
      refine anyT_one 3 (by kernel_rfl) rfl (by rfl) (fun K hK => ?_); go_simp; refine hK _ _ (.inr s2) ?_; clear hK K
      have hsz := G0.hb.size
      have H8 := G0.below hal8
      refine anyT_one 4 (by kernel_rfl) rfl (by rfl) (fun K hK => ?_)
      refine wp_append_lies _ (.tmp 30) (.tmp 32) 22 rfl w.heap.size 51 iA _ 2 40 Tryd.underlying22 hiA hA0 hA1 hA2 rfl (by decide) (.slice aV al.length cV) al.length (flatA al us) (by rfl) (GPA.alloc _) ⟨w7.heap.size, 0, none⟩ 1 1 [.string ⟨#[109, 97, 114, 107]⟩, .slice none 0 0] (by rfl) rfl (World.news_of_block (alloc_at _ _ _ rfl)) (by simp [Value.oneCell']) (by decide) (by unfold maxLen; omega) (by omega) (by simp; omega) (w7.heap.size + 1) (by simp) ?_
      intro gA capA w9 ho9 hg9 _ _
      have hcap9 : al.length + 1 ≤ capA := by
        rcases id ho9.2 with ⟨h1, _⟩ | ⟨g', cap', cur, hv, _, _, hc', _⟩
        · cases h1
        · cases hv; exact hc'
      have H9 := H8.grown (e := 51) (size := 2) (n := al.length) (v := .slice aV al.length cV) (xs := flatA al us) (GPA.alloc _) (by decide) hg9
      have K8 : Kp 51 w7 _ := Kp.below hal8
      have K9 := K8.trans (Kp.grown (B := w.heap.size) (size := 2) (n := al.length) (v := .slice aV al.length cV) (xs := flatA al us) (GPA.alloc _) hg9)
      have EPD : ∀ (j : Nat) (x : At) (u : Value), al[j]? = some x → us[j]? = some u → LentS w.heap.size w9 u x.2 := fun j x u q1 q2 => (GPD j x u q1 q2).kp K9 (by decide)
      have EPM : OwnM w.heap.size w9 (.slice aU ml.length cU) ml um := GPM.kp K9 (by decide) (by decide)
      have EPS : LentS w.heap.size w9 (.slice (some ⟨gS, 0, none⟩) 0 capS) [] := GPS.kp K9 (by decide)
      clear H8 K8 K9 hg9 hal8 s1 s2 hsz G0 GPD GPM GPS GPA
      have s9 := (msgR_cells H9.hr).2.2.2.1
      refine hK _ _ (.inr s9) ?_; clear hK K
      have hcl9 : al.length ≤ capA := by omega
      refine anyT_one 8 (by kernel_rfl) rfl (by rfl) (fun K hK => ?_); go_simp; refine hK _ _ (.inr s9) ?_; clear hK K
      refine anyT_one 9 (by kernel_rfl) rfl (by rfl) (fun K hK => ?_); go_simp; refine hK _ _ (.inr s9) ?_; clear hK K
      have z := Lib.frozen_of_heap H9.hr 14
      refine anyT_one 10 (by kernel_rfl) rfl (by rfl) (fun K hK => ?_); go_simp; refine hK _ _ (.inl (by rfl)) ?_; clear hK K
      have FS := H9.set14 (.slice (some ⟨gA, 0, none⟩) al.length capA)
      have KS : Kp 32 w9 (w9.setCell ⟨w.heap.size, 14, none⟩ (.slice (some ⟨gA, 0, none⟩) al.length capA)) := Kp.set H9.hr
      have PD : ∀ (j : Nat) (x : At) (u : Value), al[j]? = some x → us[j]? = some u → LentS w.heap.size (w9.setCell ⟨w.heap.size, 14, none⟩ (.slice (some ⟨gA, 0, none⟩) al.length capA)) u x.2 := fun j x u q1 q2 => (EPD j x u q1 q2).kp KS (by decide)
      have PM : OwnM w.heap.size (w9.setCell ⟨w.heap.size, 14, none⟩ (.slice (some ⟨gA, 0, none⟩) al.length capA)) (.slice aU ml.length cU) ml um := EPM.kp KS (by decide) (by decide)
      have PS : LentS w.heap.size (w9.setCell ⟨w.heap.size, 14, none⟩ (.slice (some ⟨gA, 0, none⟩) al.length capA)) (.slice (some ⟨gS, 0, none⟩) 0 capS) [] := EPS.kp KS (by decide)
      have PL : LentA w.heap.size (w9.setCell ⟨w.heap.size, 14, none⟩ (.slice (some ⟨gA, 0, none⟩) al.length capA)) (.slice (some ⟨gA, 0, none⟩) al.length capA) al := ⟨gA, capA, us, rfl, KS _ _ _ _ _ _ (by decide) ho9, hul, PD⟩
      clear z s9 H9 KS ho9 hcap9 hcl9 EPD EPM EPS
      clear PD
      generalize w9.setCell ⟨w.heap.size, 14, none⟩ (.slice (some ⟨gA, 0, none⟩) al.length capA) = w6 at FS PM PS PL ⊢
      refine anyT_done (by kernel_rfl) ?_ _
      simp only [Exit.then]
      refine ‹∀ (a : Act) (w : World), Code.wp _ _ _ a w → _› _ _ ?_
      obtain ⟨PU, hml', PMS⟩ := PM
      go_wp2_with fail
      have s0 := (msgR_cells FS.hr).2.2.1
      refine region_anyT (S := fun w' => w'.cell? ⟨w.heap.size, 13, none⟩ = some (.slice aU ml.length cU)) (st := 10) (by kernel_rfl) ?_
      have G0 : LnS w _ _ _ _ _ w6.drew := FS.drew
      have s1 : w6.drew.cell? ⟨w.heap.size, 13, none⟩ = some (.slice aU ml.length cU) := s0
      have GPL : LentA w.heap.size w6.drew (.slice (some ⟨gA, 0, none⟩) al.length capA) al := PL
      have GPMS : ∀ (j : Nat) (x : Md) (u : Value), ml[j]? = some x → um[j]? = some u → w6.drew.ownsRow w.heap.size 9 1 u x.2.2.length (sV x.2.2) := PMS
      have GPS : LentS w.heap.size w6.drew (.slice (some ⟨gS, 0, none⟩) 0 capS) [] := PS
      have GPU : w6.drew.ownsRow w.heap.size 53 3 (.slice aU ml.length cU) ml.length (flatM ml um) := PU
      clear s0 FS PL PMS PS PU
      generalize w6.drew = w7 at G0 s1 GPL GPMS GPS GPU ⊢
      refine anyT_free 0 (.pointer (some ⟨w.heap.size, 13, none⟩)) rfl (by decide) (by kernel_rfl) (by kernel_rfl) (by kernel_rfl) (fun _ _ _ h => h) (by rfl) (fun w' => by go_simp) (.inr s1) (fun K hK => ?_); go_simp; refine hK _ _ ?_; clear hK K
      refine anyT_free 2 (.agg #[.int .i64 0, .string ⟨#[109, 97, 114, 107]⟩, .slice none 0 0]) rfl (by decide) (by kernel_rfl) (by kernel_rfl) (by kernel_rfl) (fun _ _ _ h => h) (by rfl) (fun w' => by go_simp) (.inr s1) (fun K hK => ?_); go_simp; refine hK _ _ ?_; clear hK K
      refine anyT_free 5 (.pointer (some ⟨w.heap.size, 13, none⟩)) rfl (by decide) (by kernel_rfl) (by kernel_rfl) (by kernel_rfl) (fun _ _ _ h => h) (by rfl) (fun w' => by go_simp) (.inr s1) (fun K hK => ?_); go_simp; refine hK _ _ ?_; clear hK K
      refine anyT_take 1 (.slice aU ml.length cU) rfl (by decide) rfl (by kernel_rfl) (by kernel_rfl) (by kernel_rfl) (by kernel_rfl) (fun _ _ _ h => h) (by rfl) (fun w' hS => by go_simp) (by rfl) s1 (fun K hK => ?_); go_simp; refine hK _ _ ?_; clear hK K
      refine anyT_take 6 (.slice aU ml.length cU) rfl (by decide) rfl (by kernel_rfl) (by kernel_rfl) (by kernel_rfl) (by kernel_rfl) (fun _ _ _ h => h) (by rfl) (fun w' hS => by go_simp) (by rfl) s1 (fun K hK => ?_); go_simp; refine hK _ _ ?_; clear hK K
      refine anyT_free 7 (.int .i64 (ml.length)) rfl (by decide) (by kernel_rfl) (by kernel_rfl) (by kernel_rfl) (fun _ _ _ h => h) (by rfl) (fun w' => by go_simp) (.inr s1) (fun K hK => ?_); go_simp; refine hK _ _ ?_; clear hK K
      have hal8 : Below w7.heap.size w7 (w7.alloc (.cells #[.int .i64 0, .string ⟨#[109, 97, 114, 107]⟩, .slice none 0 0] 53)) := (Below.refl _ _).alloc (Nat.le_refl _) _
      have s2 := (hal8.cell (lt_of_cell s1)).trans s1
      refine anyT_one 3 (by kernel_rfl) rfl (by rfl) (fun K hK => ?_); go_simp; refine hK _ _ (.inr s2) ?_; clear hK K
      have hsz := G0.hb.size
      have H8 := G0.below hal8
      refine anyT_one 4 (by kernel_rfl) rfl (by rfl) (fun K hK => ?_)
      refine wp_append_lies _ (.tmp 40) (.tmp 42) 23 rfl w.heap.size 53 iM _ 3 48 Tryd.underlying23 hiM hM0 hM1 hM2 rfl (by decide) (.slice aU ml.length cU) ml.length (flatM ml um) (by rfl) (GPU.alloc _) ⟨w7.heap.size, 0, none⟩ 1 1 [.int .i64 0, .string ⟨#[109, 97, 114, 107]⟩, .slice none 0 0] (by rfl) rfl (World.news_of_block (alloc_at _ _ _ rfl)) (by simp [Value.oneCell']) (by decide) (by unfold maxLen; omega) (by omega) (by simp; omega) (w7.heap.size + 1) (by simp) ?_
      intro gM capM w9 ho9 hg9 _ _
      have hcap9 : ml.length + 1 ≤ capM := by
        rcases id ho9.2 with ⟨h1, _⟩ | ⟨g', cap', cur, hv, _, _, hc', _⟩
        · cases h1
        · cases hv; exact hc'
      have H9 := H8.grown (e := 53) (size := 3) (n := ml.length) (v := .slice aU ml.length cU) (xs := flatM ml um) (GPU.alloc _) (by decide) hg9
      have K8 : Kp 53 w7 _ := Kp.below hal8
      have K9 := K8.trans (Kp.grown (B := w.heap.size) (size := 3) (n := ml.length) (v := .slice aU ml.length cU) (xs := flatM ml um) (GPU.alloc _) hg9)
      have EPL : LentA w.heap.size w9 (.slice (some ⟨gA, 0, none⟩) al.length capA) al := GPL.kp K9 (by decide) (by decide)
      have EPMS : ∀ (j : Nat) (x : Md) (u : Value), ml[j]? = some x → um[j]? = some u → w9.ownsRow w.heap.size 9 1 u x.2.2.length (sV x.2.2) := fun j x u q1 q2 => K9 _ _ _ _ _ _ (by decide) (GPMS j x u q1 q2)
      have EPS : LentS w.heap.size w9 (.slice (some ⟨gS, 0, none⟩) 0 capS) [] := GPS.kp K9 (by decide)
      clear H8 K8 K9 hg9 hal8 s1 s2 hsz G0 GPL GPMS GPS GPU
      have s9 := (msgR_cells H9.hr).2.2.1
      refine hK _ _ (.inr s9) ?_; clear hK K
      have hcl9 : ml.length ≤ capM := by omega
      refine anyT_one 8 (by kernel_rfl) rfl (by rfl) (fun K hK => ?_); go_simp; refine hK _ _ (.inr s9) ?_; clear hK K
      refine anyT_one 9 (by kernel_rfl) rfl (by rfl) (fun K hK => ?_); go_simp; refine hK _ _ (.inr s9) ?_; clear hK K
      have z := Lib.frozen_of_heap H9.hr 13
      refine anyT_one 10 (by kernel_rfl) rfl (by rfl) (fun K hK => ?_); go_simp; refine hK _ _ (.inl (by rfl)) ?_; clear hK K
      have FS := H9.set13 (.slice (some ⟨gM, 0, none⟩) ml.length capM)
      have KS : Kp 32 w9 (w9.setCell ⟨w.heap.size, 13, none⟩ (.slice (some ⟨gM, 0, none⟩) ml.length capM)) := Kp.set H9.hr
      have PL : LentA w.heap.size (w9.setCell ⟨w.heap.size, 13, none⟩ (.slice (some ⟨gM, 0, none⟩) ml.length capM)) (.slice (some ⟨gA, 0, none⟩) al.length capA) al := EPL.kp KS (by decide) (by decide)
      have PMS : ∀ (j : Nat) (x : Md) (u : Value), ml[j]? = some x → um[j]? = some u → (w9.setCell ⟨w.heap.size, 13, none⟩ (.slice (some ⟨gM, 0, none⟩) ml.length capM)).ownsRow w.heap.size 9 1 u x.2.2.length (sV x.2.2) := fun j x u q1 q2 => KS _ _ _ _ _ _ (by decide) (EPMS j x u q1 q2)
      have PS : LentS w.heap.size (w9.setCell ⟨w.heap.size, 13, none⟩ (.slice (some ⟨gM, 0, none⟩) ml.length capM)) (.slice (some ⟨gS, 0, none⟩) 0 capS) [] := EPS.kp KS (by decide)
      have PN : LentM w.heap.size (w9.setCell ⟨w.heap.size, 13, none⟩ (.slice (some ⟨gM, 0, none⟩) ml.length capM)) (.slice (some ⟨gM, 0, none⟩) ml.length capM) ml := ⟨gM, capM, um, rfl, KS _ _ _ _ _ _ (by decide) ho9, hml', PMS⟩
      clear z s9 H9 KS ho9 hcap9 hcl9 EPL EPMS EPS
      clear PMS
      generalize w9.setCell ⟨w.heap.size, 13, none⟩ (.slice (some ⟨gM, 0, none⟩) ml.length capM) = w6 at FS PL PS PN ⊢
      refine anyT_done (by kernel_rfl) ?_ _
      simp only [Exit.then]
      refine ‹∀ (a : Act) (w : World), Code.wp _ _ _ a w → _› _ _ ?_
      go_wp2_with fail
      have s0 := (msgR_cells FS.hr).1
      refine region_anyT (S := fun w' => w'.cell? ⟨w.heap.size, 11, none⟩ = some (.slice none 0 0)) (st := 10) (by kernel_rfl) ?_
      have G0 : LnS w _ _ _ _ _ w6.drew := FS.drew
      have s1 : w6.drew.cell? ⟨w.heap.size, 11, none⟩ = some (.slice none 0 0) := s0
      have GPL : LentA w.heap.size w6.drew (.slice (some ⟨gA, 0, none⟩) al.length capA) al := PL
      have GPN : LentM w.heap.size w6.drew (.slice (some ⟨gM, 0, none⟩) ml.length capM) ml := PN
      have GPS : LentS w.heap.size w6.drew (.slice (some ⟨gS, 0, none⟩) 0 capS) [] := PS
      clear s0 FS PL PN PS
      generalize w6.drew = w7 at G0 s1 GPL GPN GPS ⊢
      refine anyT_free 0 (.pointer (some ⟨w.heap.size, 11, none⟩)) rfl (by decide) (by kernel_rfl) (by kernel_rfl) (by kernel_rfl) (fun _ _ _ h => h) (by rfl) (fun w' => by go_simp) (.inr s1) (fun K hK => ?_); go_simp; refine hK _ _ ?_; clear hK K
      refine anyT_free 2 (.agg #[.int .i64 0, .int .i64 0, .string ⟨#[109, 97, 114, 107]⟩, .string ⟨#[]⟩, .string ⟨#[]⟩, .string ⟨#[]⟩, .slice none 0 0]) rfl (by decide) (by kernel_rfl) (by kernel_rfl) (by kernel_rfl) (fun _ _ _ h => h) (by rfl) (fun w' => by go_simp) (.inr s1) (fun K hK => ?_); go_simp; refine hK _ _ ?_; clear hK K
      refine anyT_free 5 (.pointer (some ⟨w.heap.size, 11, none⟩)) rfl (by decide) (by kernel_rfl) (by kernel_rfl) (by kernel_rfl) (fun _ _ _ h => h) (by rfl) (fun w' => by go_simp) (.inr s1) (fun K hK => ?_); go_simp; refine hK _ _ ?_; clear hK K
      refine anyT_take 1 (.slice none 0 0) rfl (by decide) rfl (by kernel_rfl) (by kernel_rfl) (by kernel_rfl) (by kernel_rfl) (fun _ _ _ h => h) (by rfl) (fun w' hS => by go_simp) (by rfl) s1 (fun K hK => ?_); go_simp; refine hK _ _ ?_; clear hK K
      refine anyT_take 6 (.slice none 0 0) rfl (by decide) rfl (by kernel_rfl) (by kernel_rfl) (by kernel_rfl) (by kernel_rfl) (fun _ _ _ h => h) (by rfl) (fun w' hS => by go_simp) (by rfl) s1 (fun K hK => ?_); go_simp; refine hK _ _ ?_; clear hK K
      refine anyT_free 7 (.int .i64 (0)) rfl (by decide) (by kernel_rfl) (by kernel_rfl) (by kernel_rfl) (fun _ _ _ h => h) (by rfl) (fun w' => by go_simp) (.inr s1) (fun K hK => ?_); go_simp; refine hK _ _ ?_; clear hK K
      have hal8 : Below w7.heap.size w7 (w7.alloc (.cells #[.int .i64 0, .int .i64 0, .string ⟨#[109, 97, 114, 107]⟩, .string ⟨#[]⟩, .string ⟨#[]⟩, .string ⟨#[]⟩, .slice none 0 0] 55)) := (Below.refl _ _).alloc (Nat.le_refl _) _
      have s2 := (hal8.cell (lt_of_cell s1)).trans s1
      refine anyT_one 3 (by kernel_rfl) rfl (by rfl) (fun K hK => ?_); go_simp; refine hK _ _ (.inr s2) ?_; clear hK K
      have hsz := G0.hb.size
      have H8 := G0.below hal8
      refine anyT_one 4 (by kernel_rfl) rfl (by rfl) (fun K hK => ?_)
      refine wp_append_lies _ (.tmp 50) (.tmp 52) 28 rfl w.heap.size 55 iF _ 7 104 Tryd.underlying28 hiF hF0 hF1 hF2 rfl (by decide) (.slice none 0 0) 0 ([]) (by rfl) (World.ownsRow_nil _ _ _ _) ⟨w7.heap.size, 0, none⟩ 1 1 [.int .i64 0, .int .i64 0, .string ⟨#[109, 97, 114, 107]⟩, .string ⟨#[]⟩, .string ⟨#[]⟩, .string ⟨#[]⟩, .slice none 0 0] (by rfl) rfl (World.news_of_block (alloc_at _ _ _ rfl)) (by simp [Value.oneCell']) (by decide) (by unfold maxLen; omega) (by omega) (by simp; omega) (w7.heap.size + 1) (by simp) ?_
      intro gF capF w9 ho9 hg9 _ _
      have hcap9 : 0 + 1 ≤ capF := by
        rcases id ho9.2 with ⟨h1, _⟩ | ⟨g', cap', cur, hv, _, _, hc', _⟩
        · cases h1
        · cases hv; exact hc'
      have H9 := H8.grown (e := 55) (size := 7) (n := 0) (v := .slice none 0 0) (xs := []) (World.ownsRow_nil _ _ _ _) (by decide) hg9
      have K8 : Kp 55 w7 _ := Kp.below hal8
      have K9 := K8.trans (Kp.grown (B := w.heap.size) (size := 7) (n := 0) (v := .slice none 0 0) (xs := []) (World.ownsRow_nil _ _ _ _) hg9)
      have EPL : LentA w.heap.size w9 (.slice (some ⟨gA, 0, none⟩) al.length capA) al := GPL.kp K9 (by decide) (by decide)
      have EPN : LentM w.heap.size w9 (.slice (some ⟨gM, 0, none⟩) ml.length capM) ml := GPN.kp K9 (by decide) (by decide)
      have EPS : LentS w.heap.size w9 (.slice (some ⟨gS, 0, none⟩) 0 capS) [] := GPS.kp K9 (by decide)
      clear H8 K8 K9 hg9 hal8 s1 s2 hsz G0 GPL GPN GPS
      have s9 := (msgR_cells H9.hr).1
      refine hK _ _ (.inr s9) ?_; clear hK K
      have hcl9 : 0 ≤ capF := by omega
      refine anyT_one 8 (by kernel_rfl) rfl (by rfl) (fun K hK => ?_); go_simp; refine hK _ _ (.inr s9) ?_; clear hK K
      refine anyT_one 9 (by kernel_rfl) rfl (by rfl) (fun K hK => ?_); go_simp; refine hK _ _ (.inr s9) ?_; clear hK K
      have z := Lib.frozen_of_heap H9.hr 11
      refine anyT_one 10 (by kernel_rfl) rfl (by rfl) (fun K hK => ?_); go_simp; refine hK _ _ (.inl (by rfl)) ?_; clear hK K
      have FS := H9.set11 (.slice (some ⟨gF, 0, none⟩) 0 capF)
      have KS : Kp 32 w9 (w9.setCell ⟨w.heap.size, 11, none⟩ (.slice (some ⟨gF, 0, none⟩) 0 capF)) := Kp.set H9.hr
      have PL : LentA w.heap.size (w9.setCell ⟨w.heap.size, 11, none⟩ (.slice (some ⟨gF, 0, none⟩) 0 capF)) (.slice (some ⟨gA, 0, none⟩) al.length capA) al := EPL.kp KS (by decide) (by decide)
      have PN : LentM w.heap.size (w9.setCell ⟨w.heap.size, 11, none⟩ (.slice (some ⟨gF, 0, none⟩) 0 capF)) (.slice (some ⟨gM, 0, none⟩) ml.length capM) ml := EPN.kp KS (by decide) (by decide)
      have PS : LentS w.heap.size (w9.setCell ⟨w.heap.size, 11, none⟩ (.slice (some ⟨gF, 0, none⟩) 0 capF)) (.slice (some ⟨gS, 0, none⟩) 0 capS) [] := EPS.kp KS (by decide)
      have PF : LentF w.heap.size (w9.setCell ⟨w.heap.size, 11, none⟩ (.slice (some ⟨gF, 0, none⟩) 0 capF)) (.slice (some ⟨gF, 0, none⟩) 0 capF) := ⟨gF, capF, rfl, KS _ _ _ _ _ _ (by decide) ho9⟩
      clear z s9 H9 KS ho9 hcap9 hcl9 EPL EPN EPS
      generalize w9.setCell ⟨w.heap.size, 11, none⟩ (.slice (some ⟨gF, 0, none⟩) 0 capF) = w6 at FS PL PN PS PF ⊢
      refine anyT_done (by kernel_rfl) ?_ _
      simp only [Exit.then]
      refine ‹∀ (a : Act) (w : World), Code.wp _ _ _ a w → _› _ _ ?_
      go_wp2_with fail
      have s0 := (msgR_cells FS.hr).2.2.2.2
      refine region_anyT (S := fun w' => w'.cell? ⟨w.heap.size, 27, none⟩ = some (.slice none 0 0)) (st := 10) (by kernel_rfl) ?_
      have G0 : LnS w _ _ _ _ _ w6.drew := FS.drew
      have s1 : w6.drew.cell? ⟨w.heap.size, 27, none⟩ = some (.slice none 0 0) := s0
      have GPL : LentA w.heap.size w6.drew (.slice (some ⟨gA, 0, none⟩) al.length capA) al := PL
      have GPN : LentM w.heap.size w6.drew (.slice (some ⟨gM, 0, none⟩) ml.length capM) ml := PN
      have GPS : LentS w.heap.size w6.drew (.slice (some ⟨gS, 0, none⟩) 0 capS) [] := PS
      have GPF : LentF w.heap.size w6.drew (.slice (some ⟨gF, 0, none⟩) 0 capF) := PF
      clear s0 FS PL PN PS PF
      generalize w6.drew = w7 at G0 s1 GPL GPN GPS GPF ⊢
      refine anyT_free 0 (.pointer (some ⟨w.heap.size, 27, none⟩)) rfl (by decide) (by kernel_rfl) (by kernel_rfl) (by kernel_rfl) (fun _ _ _ h => h) (by rfl) (fun w' => by go_simp) (.inr s1) (fun K hK => ?_); go_simp; refine hK _ _ ?_; clear hK K
      refine anyT_free 2 (.agg #[.string ⟨#[109, 97, 114, 107]⟩, .bool false, .bool false, .string ⟨#[]⟩]) rfl (by decide) (by kernel_rfl) (by kernel_rfl) (by kernel_rfl) (fun _ _ _ h => h) (by rfl) (fun w' => by go_simp) (.inr s1) (fun K hK => ?_); go_simp; refine hK _ _ ?_; clear hK K
      refine anyT_free 5 (.pointer (some ⟨w.heap.size, 27, none⟩)) rfl (by decide) (by kernel_rfl) (by kernel_rfl) (by kernel_rfl) (fun _ _ _ h => h) (by rfl) (fun w' => by go_simp) (.inr s1) (fun K hK => ?_); go_simp; refine hK _ _ ?_; clear hK K
      refine anyT_take 1 (.slice none 0 0) rfl (by decide) rfl (by kernel_rfl) (by kernel_rfl) (by kernel_rfl) (by kernel_rfl) (fun _ _ _ h => h) (by rfl) (fun w' hS => by go_simp) (by rfl) s1 (fun K hK => ?_); go_simp; refine hK _ _ ?_; clear hK K
      refine anyT_take 6 (.slice none 0 0) rfl (by decide) rfl (by kernel_rfl) (by kernel_rfl) (by kernel_rfl) (by kernel_rfl) (fun _ _ _ h => h) (by rfl) (fun w' hS => by go_simp) (by rfl) s1 (fun K hK => ?_); go_simp; refine hK _ _ ?_; clear hK K
      refine anyT_free 7 (.int .i64 (0)) rfl (by decide) (by kernel_rfl) (by kernel_rfl) (by kernel_rfl) (fun _ _ _ h => h) (by rfl) (fun w' => by go_simp) (.inr s1) (fun K hK => ?_); go_simp; refine hK _ _ ?_; clear hK K
      have hal8 : Below w7.heap.size w7 (w7.alloc (.cells #[.string ⟨#[109, 97, 114, 107]⟩, .bool false, .bool false, .string ⟨#[]⟩] 57)) := (Below.refl _ _).alloc (Nat.le_refl _) _
      have s2 := (hal8.cell (lt_of_cell s1)).trans s1
      refine anyT_one 3 (by kernel_rfl) rfl (by rfl) (fun K hK => ?_); go_simp; refine hK _ _ (.inr s2) ?_; clear hK K
      have hsz := G0.hb.size
      have H8 := G0.below hal8
      refine anyT_one 4 (by kernel_rfl) rfl (by rfl) (fun K hK => ?_)
      refine wp_append_lies _ (.tmp 60) (.tmp 62) 30 rfl w.heap.size 57 iC _ 4 40 Tryd.underlying30 hiC hC0 hC1 hC2 rfl (by decide) (.slice none 0 0) 0 ([]) (by rfl) (World.ownsRow_nil _ _ _ _) ⟨w7.heap.size, 0, none⟩ 1 1 [.string ⟨#[109, 97, 114, 107]⟩, .bool false, .bool false, .string ⟨#[]⟩] (by rfl) rfl (World.news_of_block (alloc_at _ _ _ rfl)) (by simp [Value.oneCell']) (by decide) (by unfold maxLen; omega) (by omega) (by simp; omega) (w7.heap.size + 1) (by simp) ?_
      intro gC capC w9 ho9 hg9 _ _
      have hcap9 : 0 + 1 ≤ capC := by
        rcases id ho9.2 with ⟨h1, _⟩ | ⟨g', cap', cur, hv, _, _, hc', _⟩
        · cases h1
        · cases hv; exact hc'
      have H9 := H8.grown (e := 57) (size := 4) (n := 0) (v := .slice none 0 0) (xs := []) (World.ownsRow_nil _ _ _ _) (by decide) hg9
      have K8 : Kp 57 w7 _ := Kp.below hal8
      have K9 := K8.trans (Kp.grown (B := w.heap.size) (size := 4) (n := 0) (v := .slice none 0 0) (xs := []) (World.ownsRow_nil _ _ _ _) hg9)
      have EPL : LentA w.heap.size w9 (.slice (some ⟨gA, 0, none⟩) al.length capA) al := GPL.kp K9 (by decide) (by decide)
      have EPN : LentM w.heap.size w9 (.slice (some ⟨gM, 0, none⟩) ml.length capM) ml := GPN.kp K9 (by decide) (by decide)
      have EPS : LentS w.heap.size w9 (.slice (some ⟨gS, 0, none⟩) 0 capS) [] := GPS.kp K9 (by decide)
      have EPF : LentF w.heap.size w9 (.slice (some ⟨gF, 0, none⟩) 0 capF) := GPF.kp K9 (by decide)
      clear H8 K8 K9 hg9 hal8 s1 s2 hsz G0 GPL GPN GPS GPF
      have s9 := (msgR_cells H9.hr).2.2.2.2
      refine hK _ _ (.inr s9) ?_; clear hK K
      have hcl9 : 0 ≤ capC := by omega
      refine anyT_one 8 (by kernel_rfl) rfl (by rfl) (fun K hK => ?_); go_simp; refine hK _ _ (.inr s9) ?_; clear hK K
      refine anyT_one 9 (by kernel_rfl) rfl (by rfl) (fun K hK => ?_); go_simp; refine hK _ _ (.inr s9) ?_; clear hK K
      have z := Lib.frozen_of_heap H9.hr 27
      refine anyT_one 10 (by kernel_rfl) rfl (by rfl) (fun K hK => ?_); go_simp; refine hK _ _ (.inl (by rfl)) ?_; clear hK K
      have FS := H9.set27 (.slice (some ⟨gC, 0, none⟩) 0 capC)
      have KS : Kp 32 w9 (w9.setCell ⟨w.heap.size, 27, none⟩ (.slice (some ⟨gC, 0, none⟩) 0 capC)) := Kp.set H9.hr
      have PL : LentA w.heap.size (w9.setCell ⟨w.heap.size, 27, none⟩ (.slice (some ⟨gC, 0, none⟩) 0 capC)) (.slice (some ⟨gA, 0, none⟩) al.length capA) al := EPL.kp KS (by decide) (by decide)
      have PN : LentM w.heap.size (w9.setCell ⟨w.heap.size, 27, none⟩ (.slice (some ⟨gC, 0, none⟩) 0 capC)) (.slice (some ⟨gM, 0, none⟩) ml.length capM) ml := EPN.kp KS (by decide) (by decide)
      have PS : LentS w.heap.size (w9.setCell ⟨w.heap.size, 27, none⟩ (.slice (some ⟨gC, 0, none⟩) 0 capC)) (.slice (some ⟨gS, 0, none⟩) 0 capS) [] := EPS.kp KS (by decide)
      have PF : LentF w.heap.size (w9.setCell ⟨w.heap.size, 27, none⟩ (.slice (some ⟨gC, 0, none⟩) 0 capC)) (.slice (some ⟨gF, 0, none⟩) 0 capF) := EPF.kp KS (by decide)
      have PC : LentC w.heap.size (w9.setCell ⟨w.heap.size, 27, none⟩ (.slice (some ⟨gC, 0, none⟩) 0 capC)) (.slice (some ⟨gC, 0, none⟩) 0 capC) := ⟨gC, capC, rfl, KS _ _ _ _ _ _ (by decide) ho9⟩
      clear z s9 H9 KS ho9 hcap9 hcl9 EPL EPN EPS EPF
      generalize w9.setCell ⟨w.heap.size, 27, none⟩ (.slice (some ⟨gC, 0, none⟩) 0 capC) = w6 at FS PL PN PS PF PC ⊢
      refine anyT_done (by kernel_rfl) ?_ _
      simp only [Exit.then]
      refine ‹∀ (a : Act) (w : World), Code.wp _ _ _ a w → _› _ _ ?_
      refine wp_seq ?_
      refine wp_region_list ?_
      refine wpList_loadRow rfl 32 (.tmp 1) rfl w.heap.size 32 _ (0, 0) (by rfl) FS.hr _ Tryd.underlying32 rfl (by rfl) ?_
      refine wpList_storeRow rfl 32 (.tmp 2) (.tmp 69) rfl (w.heap.size + 1) 32 _ (msgR (.slice (some ⟨gF, 0, none⟩) 0 capF) (.slice (some ⟨gS, 0, none⟩) 0 capS) (.slice (some ⟨gM, 0, none⟩) ml.length capM) (.slice (some ⟨gA, 0, none⟩) al.length capA) (.slice (some ⟨gC, 0, none⟩) 0 capC)) (by rfl) (by rfl) FS.hz (by rfl) rfl (by simp [msgR, Value.oneCell']) ?_
      have hq := setRow_heap w6 (w.heap.size + 1) _ (msgR (.slice (some ⟨gF, 0, none⟩) 0 capF) (.slice (some ⟨gS, 0, none⟩) 0 capS) (.slice (some ⟨gM, 0, none⟩) ml.length capM) (.slice (some ⟨gA, 0, none⟩) al.length capA) (.slice (some ⟨gC, 0, none⟩) 0 capC)) _ _ FS.hz
      have hqb := below_row FS.hb (g := w.heap.size + 1) (by omega) (msgR (.slice (some ⟨gF, 0, none⟩) 0 capF) (.slice (some ⟨gS, 0, none⟩) 0 capS) (.slice (some ⟨gM, 0, none⟩) ml.length capM) (.slice (some ⟨gA, 0, none⟩) al.length capA) (.slice (some ⟨gC, 0, none⟩) 0 capC))
      have KS : Kp 32 w6 (w6.setRow (w.heap.size + 1) (msgR (.slice (some ⟨gF, 0, none⟩) 0 capF) (.slice (some ⟨gS, 0, none⟩) 0 capS) (.slice (some ⟨gM, 0, none⟩) ml.length capM) (.slice (some ⟨gA, 0, none⟩) al.length capA) (.slice (some ⟨gC, 0, none⟩) 0 capC))) := Kp.row FS.hz
      have XL := PL.kp KS (by decide) (by decide)
      have XN := PN.kp KS (by decide) (by decide)
      have XS := PS.kp KS (by decide)
      have XF := PF.kp KS (by decide)
      have XC := PC.kp KS (by decide)
      generalize w6.setRow (w.heap.size + 1) (msgR (.slice (some ⟨gF, 0, none⟩) 0 capF) (.slice (some ⟨gS, 0, none⟩) 0 capS) (.slice (some ⟨gM, 0, none⟩) ml.length capM) (.slice (some ⟨gA, 0, none⟩) al.length capA) (.slice (some ⟨gC, 0, none⟩) 0 capC)) = wz at hq hqb XL XN XS XF XC ⊢
      clear FS PL PN PS PF PC KS
      go_simp
      go_wp2_with fail
      all_goals refine bodyPost_ret (v := .agg (msgR (.slice (some ⟨gF, 0, none⟩) 0 capF) (.slice (some ⟨gS, 0, none⟩) 0 capS) (.slice (some ⟨gM, 0, none⟩) ml.length capM) (.slice (some ⟨gA, 0, none⟩) al.length capA) (.slice (some ⟨gC, 0, none⟩) 0 capC))) ?_ rfl ⟨⟨_, _, _, _, _, rfl, XF, XS, XN, XL, XC⟩, hqb⟩
      all_goals have hr := run_loadVar_row (P := Tryd.prog) wz (w.heap.size + 1) 32 32 (msgR (.slice (some ⟨gF, 0, none⟩) 0 capF) (.slice (some ⟨gS, 0, none⟩) 0 capS) (.slice (some ⟨gM, 0, none⟩) ml.length capM) (.slice (some ⟨gA, 0, none⟩) al.length capA) (.slice (some ⟨gC, 0, none⟩) 0 capC)) (0, 0) _ hq (show Tryd.prog.underlying 32 = _ from Tryd.underlying32) (by rfl) (by rfl)
      all_goals simp [results, Tryd.f9]
      all_goals exact hr
end Go.Proofs.YtehpdodjncabkaaDoor
