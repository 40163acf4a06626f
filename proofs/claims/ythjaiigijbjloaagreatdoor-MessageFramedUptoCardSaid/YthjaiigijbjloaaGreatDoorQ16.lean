/- PlainFlt, ElA. -/
import Derived.Test.YthjaiigijbjloaaGreatDoorQ15
namespace Go.Proofs.YthjaiigijbjloaaGreatDoor
open Go.RowKit Go.Lib
structure Fl where
 op : Int
 n : Int
 typ : List UInt8
 value : List UInt8
 init : List UInt8
 final : List UInt8
 any : List (List UInt8)
def shapeB (p : Fl) : Bool :=
 if p.op = 0 ∨ p.op = 1 ∨ p.op = 2 then decide (p.typ = []) && decide (p.value = []) && decide (p.init = []) && decide (p.final = []) && decide (p.any = []) && decide (0 ≤ p.n) && (decide (p.op ≠ 2) || decide (p.n = 1))
 else if p.op = 3 ∨ p.op = 5 ∨ p.op = 6 ∨ p.op = 8 then decide (p.n = 0) && decide (p.init = []) && decide (p.final = []) && decide (p.any = []) && isTyB p.typ
 else if p.op = 4 then !(decide (p.init = []) && decide (p.final = []) && decide (p.any = [])) && !p.any.contains [] && decide (p.n = 0) && decide (p.value = []) && isTyB p.typ
 else if p.op = 7 then decide (p.n = 0) && decide (p.value = []) && decide (p.init = []) && decide (p.final = []) && decide (p.any = []) && isTyB p.typ
 else false
def iterO (g : List Fl → Option (List Fl)) : Nat → List Fl → Option (List Fl)
 | 0, f => some f
 | n + 1, f => match g f with
  | none => none
  | some r => iterO g n r
def wholeB : Nat → List Fl → Option (List Fl)
 | 0, _ => none
 | _ + 1, [] => none
 | k + 1, p :: f => if shapeB p then iterO (wholeB k) p.n.toNat f else none
def filtB (f : List Fl) : Bool := decide (f.length ≤ 100) && (match wholeB 20 f with | some [] => true | _ => false)
def strL (s : List UInt8) : El := .mk 0 4 false s []
def piecesE (p : Fl) : List El :=
 (if p.init = [] then [] else [.mk 2 0 false p.init []]) ++ p.any.map (fun s => .mk 2 1 false s []) ++ (if p.final = [] then [] else [.mk 2 2 false p.final []])
def leafE (p : Fl) : El :=
 if p.op = 7 then .mk 2 7 false p.typ [] else if p.op = 4 then .mk 2 4 true [] [strL p.typ, .mk 0 16 true [] (piecesE p)] else .mk 2 p.op true [] [strL p.typ, strL p.value]
def iterE (g : List Fl → El × List Fl) : Nat → List Fl → List El × List Fl
 | 0, f => ([], f)
 | n + 1, f => ((g f).1 :: (iterE g n (g f).2).1, (iterE g n (g f).2).2)
def fltE : Nat → List Fl → El × List Fl
 | 0, f => (.mk 0 0 false [] [], f)
 | _ + 1, [] => (.mk 0 0 false [] [], [])
 | k + 1, p :: f => if p.op = 0 ∨ p.op = 1 ∨ p.op = 2 then (.mk 2 p.op true [] (iterE (fltE k) p.n.toNat f).1, (iterE (fltE k) p.n.toNat f).2) else (leafE p, f)
theorem shapeB_n {p : Fl} (h : shapeB p = true) (h2 : ¬ (p.op = 0 ∨ p.op = 1 ∨ p.op = 2)) : p.n = 0 := by
 unfold shapeB at h
 rw [if_neg h2] at h
 by_cases h3 : p.op = 3 ∨ p.op = 5 ∨ p.op = 6 ∨ p.op = 8
 ·rw [if_pos h3] at h; simp only [Bool.and_eq_true, decide_eq_true_eq] at h; exact h.1.1.1.1
 ·rw [if_neg h3] at h
  by_cases h4 : p.op = 4
  ·rw [if_pos h4] at h; simp only [Bool.and_eq_true, decide_eq_true_eq] at h; exact h.1.1.2
  ·rw [if_neg h4] at h
   by_cases h5 : p.op = 7
   ·rw [if_pos h5] at h; simp only [Bool.and_eq_true, decide_eq_true_eq] at h; exact h.1.1.1.1.1
   ·rw [if_neg h5] at h; cases h
theorem iterE_of {g : List Fl → Option (List Fl)} {e : List Fl → El × List Fl} (hg : ∀ f r, g f = some r → (e f).2 = r) : ∀ (n : Nat) (f r : List Fl), iterO g n f = some r → (iterE e n f).2 = r
 | 0, f, r, h => by simp [iterO] at h; simp [iterE, h]
 | n + 1, f, r, h => by
  unfold iterO at h
  unfold iterE
  cases hf : g f with
  | none => rw [hf] at h; cases h
  | some r' =>
   rw [hf] at h
   rw [hg f r' hf]
   exact iterE_of hg n r' r h
theorem fltE_of : ∀ (k : Nat) (f r : List Fl), wholeB k f = some r → (fltE k f).2 = r
 | 0, _, _, h => by cases h
 | k + 1, [], _, h => by cases h
 | k + 1, p :: f, r, h => by
  unfold wholeB at h
  unfold fltE
  by_cases h0 : shapeB p = true
  ·rw [if_pos h0] at h
   by_cases h1 : p.op = 0 ∨ p.op = 1 ∨ p.op = 2
   ·rw [if_pos h1]
    exact iterE_of (fltE_of k) _ _ _ h
   ·rw [if_neg h1]
    rw [shapeB_n h0 h1] at h
    simpa [iterO] using h
  ·rw [if_neg h0] at h; cases h
theorem iterO_suf {g : List Fl → Option (List Fl)} (hg : ∀ f r, g f = some r → r <:+ f) : ∀ (n : Nat) (f r : List Fl), iterO g n f = some r → r <:+ f
 | 0, f, r, h => by simp [iterO] at h; rw [h]; exact List.suffix_refl _
 | n + 1, f, r, h => by
  unfold iterO at h
  cases hf : g f with
  | none => rw [hf] at h; cases h
  | some r' =>
   rw [hf] at h
   exact (iterO_suf hg n r' r h).trans (hg f r' hf)
theorem wholeB_suf : ∀ (k : Nat) (f r : List Fl), wholeB k f = some r → r <:+ f
 | 0, _, _, h => by cases h
 | k + 1, [], _, h => by cases h
 | k + 1, p :: f, r, h => by
  unfold wholeB at h
  split at h
  ·exact (iterO_suf (wholeB_suf k) _ _ _ h).trans (List.suffix_cons _ _)
  ·cases h
theorem iterO_len {g : List Fl → Option (List Fl)} (hg : ∀ f r, g f = some r → r.length < f.length) : ∀ (n : Nat) (f r : List Fl), iterO g n f = some r → n + r.length ≤ f.length
 | 0, f, r, h => by simp [iterO] at h; simp [h]
 | n + 1, f, r, h => by
  unfold iterO at h
  cases hf : g f with
  | none => rw [hf] at h; cases h
  | some r' =>
   rw [hf] at h
   have h1 := hg f r' hf
   have h2 := iterO_len hg n r' r h
   omega
theorem wholeB_len : ∀ (k : Nat) (f r : List Fl), wholeB k f = some r → r.length < f.length
 | 0, _, _, h => by cases h
 | k + 1, [], _, h => by cases h
 | k + 1, p :: f, r, h => by
  unfold wholeB at h
  split at h
  ·have := iterO_len (wholeB_len k) _ _ _ h
   simp only [List.length_cons]
   omega
  ·cases h
def Fl.ok (p : Fl) : Prop := p.typ.length ≤ 100000000 ∧ p.value.length ≤ 100000000 ∧ p.init.length ≤ 100000000 ∧ p.final.length ≤ 100000000 ∧ p.any.length ≤ 100000000 ∧ ∀ s ∈ p.any, s.length ≤ 100000000
theorem sm_app : ∀ (a b : List El), SmL a → SmL b → SmL (a ++ b)
 | [], b, _, hb => hb
 | e :: r, b, ha, hb => by simp only [SmL] at ha; simp only [List.cons_append, SmL]; exact ⟨ha.1, sm_app r b ha.2 hb⟩
theorem sm_any : ∀ l : List (List UInt8), (∀ s ∈ l, s.length ≤ 100000000) → SmL (l.map (fun s => El.mk 2 1 false s []))
 | [], _ => by simp [SmL]
 | s :: r, h => by
  simp only [List.map_cons, SmL, SmE]
  exact ⟨⟨by have := h s (by simp); omega, by simp, trivial⟩, sm_any r (fun x hx => h x (by simp [hx]))⟩
theorem sm_pieces (p : Fl) (h : p.ok) : SmL (piecesE p) := by
 obtain ⟨h1, h2, h3, h4, h5, h6⟩ := h
 unfold piecesE
 refine sm_app _ _ (sm_app _ _ ?_ (sm_any p.any h6)) ?_
 ·split
  ·trivial
  ·simp [SmL, SmE]; omega
 ·split
  ·trivial
  ·simp [SmL, SmE]; omega
theorem len_pieces (p : Fl) (h : p.ok) : (piecesE p).length ≤ 1000000000 := by
 have h5 := h.2.2.2.2.1
 unfold piecesE
 split <;> split <;> simp <;> omega
theorem sm_leaf (p : Fl) (h : p.ok) : SmE (leafE p) := by
 have hp := sm_pieces p h
 have hl := len_pieces p h
 obtain ⟨h1, h2, h3, h4, h5, h6⟩ := h
 unfold leafE
 split
 ·simp [SmE, SmL]; omega
 ·split
  ·simp only [SmE, SmL, strL]
   simp
   exact ⟨by omega, hl, hp⟩
  ·simp only [SmE, SmL, strL]
   simp
   omega
theorem iterE_len {e : List Fl → El × List Fl} : ∀ (n : Nat) (f : List Fl), (iterE e n f).1.length = n
 | 0, f => rfl
 | n + 1, f => by simp [iterE, iterE_len n]
theorem sm_iter {g : List Fl → Option (List Fl)} {e : List Fl → El × List Fl} (hg : ∀ f r, g f = some r → (e f).2 = r ∧ r <:+ f) (he : ∀ f r, (∀ p ∈ f, p.ok) → f.length ≤ 100 → g f = some r → SmE (e f).1) :
  ∀ (n : Nat) (f r : List Fl), (∀ p ∈ f, p.ok) → f.length ≤ 100 → iterO g n f = some r → SmL (iterE e n f).1
 | 0, f, r, _, _, _ => by simp [iterE, SmL]
 | n + 1, f, r, hk, hl, h => by
  unfold iterO at h
  unfold iterE
  cases hf : g f with
  | none => rw [hf] at h; cases h
  | some r' =>
   rw [hf] at h
   obtain ⟨h1, h2⟩ := hg f r' hf
   simp only [SmL]
   rw [h1]
   exact ⟨he f r' hk hl hf, sm_iter hg he n r' r (fun p hp => hk p (h2.subset hp)) (by have := h2.length_le; omega) h⟩
theorem sm_flt : ∀ (k : Nat) (f r : List Fl), (∀ p ∈ f, p.ok) → f.length ≤ 100 → wholeB k f = some r → SmE (fltE k f).1
 | 0, _, _, _, _, h => by cases h
 | k + 1, [], _, _, _, h => by cases h
 | k + 1, p :: f, r, hk, hl, h => by
  have hlen := wholeB_len (k + 1) _ _ h
  unfold wholeB at h
  unfold fltE
  by_cases h0 : shapeB p = true
  ·rw [if_pos h0] at h
   by_cases h1 : p.op = 0 ∨ p.op = 1 ∨ p.op = 2
   ·rw [if_pos h1]
    have h2 := iterO_len (wholeB_len k) _ _ _ h
    simp only [List.length_cons] at hl
    have hs := sm_iter (fun f r hf => ⟨fltE_of k f r hf, wholeB_suf k f r hf⟩) (sm_flt k) p.n.toNat f r (fun q hq => hk q (by simp [hq])) (by omega) h
    simp only [SmE, iterE_len]
    exact ⟨by simp, by omega, hs⟩
   ·rw [if_neg h1]
    exact sm_leaf p (hk p (by simp))
  ·rw [if_neg h0] at h; cases h
def OwnK (B : Nat) (w : World) (v : Value) (l : List El) : Prop :=
 ∃ us : List Value, us.length = l.length ∧ w.ownsRow B 45 5 v l.length (flatE l us) ∧
  ∀ (j : Nat) (e : El) (u : Value), l[j]? = some e → us[j]? = some u → KidsAt (fun g => v.ownBlock ≠ some g) w u e.kids
theorem OwnK.nil (B : Nat) (w : World) : OwnK B w (.slice none 0 0) [] := ⟨[], rfl, ⟨rfl, .inl ⟨rfl, rfl⟩⟩, fun j e u h => by simp at h⟩
theorem OwnK.shape {B : Nat} {w : World} {v : Value} {l : List El} (h : OwnK B w v l) : ∃ a c, v = .slice a l.length c := by
 obtain ⟨us, _, ho, _⟩ := h
 exact own_shape ho
theorem OwnK.kids {B : Nat} {w : World} {v : Value} {l : List El} (h : OwnK B w v l) : KidsAt (fun _ => True) w v l := by
 obtain ⟨us, hu, ho, hk⟩ := h
 exact kids_own ho hu (fun j e u q1 q2 => (hk j e u q1 q2).mono fun _ _ _ => trivial) (fun _ _ => trivial)
theorem OwnK.lt {B : Nat} {w : World} {v : Value} {l : List El} (h : OwnK B w v l) {g : Nat} (hg : v.ownBlock = some g) : B ≤ g ∧ g < w.heap.size := by
 obtain ⟨us, _, ho, _⟩ := h
 exact ho.lt g hg
theorem OwnK.keep {B : Nat} {w w' : World} {v : Value} {l : List El} (h : OwnK B w v l) (hk : ∀ j, j < w.heap.size → w'.heap[j]? = w.heap[j]?) : OwnK B w' v l := by
 obtain ⟨us, hu, ho, hkk⟩ := h
 refine ⟨us, hu, ⟨ho.1, ?_⟩, fun j e u q1 q2 => (hkk j e u q1 q2).kept fun g hg hl => ⟨hk g hl, hg⟩⟩
 rcases ho.2 with h0 | ⟨g, cap, cur, hv, hb, hg, rest⟩
 ·exact .inl h0
 ·exact .inr ⟨g, cap, cur, hv, hb, (hk g (gl hg)).trans hg, rest⟩
theorem OwnK.below {B : Nat} {w w' : World} {v : Value} {l : List El} (h : OwnK B w v l) (hb : Below w.heap.size w w') : OwnK B w' v l := h.keep fun j hj => hb.block j hj
theorem OwnK.mono {B B' : Nat} {w : World} {v : Value} {l : List El} (h : OwnK B w v l) (hB : B' ≤ B) : OwnK B' w v l := by
 obtain ⟨us, hu, ho, hkk⟩ := h
 exact ⟨us, hu, own_mono ho hB, hkk⟩
theorem OwnK.flat {B g : Nat} {w : World} {l : List El} {us : List Value} {cs : Array Value} (hb : w.heap[g]? = some (.cells cs 45 (0, 0))) (hcs : cs.toList = flatE l us) (hl : us.length = l.length) (hB : B ≤ g) (hn : l.length ≤ 1000000000)
  (hk : ∀ (j : Nat) (e : El) (u : Value), l[j]? = some e → us[j]? = some u → KidsAt (fun g' => g' ≠ g) w u e.kids) : OwnK B w (.slice (some ⟨g, 0, none⟩) l.length l.length) l := by
 have hfl := flatE_length l us hl
 refine ⟨us, hl, ⟨by rw [hfl], .inr ⟨g, l.length, cs, rfl, hB, hb, Nat.le_refl _, by unfold maxLen; omega, by rw [← Array.length_toList, hcs, hfl], by rw [hcs, ← hfl, List.take_length]⟩⟩, fun j e u q1 q2 => (hk j e u q1 q2).mono fun g' hg' _ h => hg' ?_⟩
 have : g = g' := by simpa [Value.ownBlock] using h
 exact this.symm
set_option maxHeartbeats 1000000 in
theorem own_more {B H g cap : Nat} {w w' : World} {v : Value} {l us : List Value} {ls : List El} {e : El} {u : Value} (hl : l = flatE ls us) (hu : us.length = ls.length) (hv : w.ownsRow B 45 5 v ls.length l)
  (hk : ∀ (j : Nat) (e : El) (u : Value), ls[j]? = some e → us[j]? = some u → KidsAt (fun g => v.ownBlock ≠ some g) w u e.kids) (hke : KidsAt (fun g => v.ownBlock ≠ some g) w u e.kids)
  (ho : w'.ownsRow B 45 5 (.slice (some ⟨g, 0, none⟩) (ls.length + 1) cap) (ls.length + 1) (l ++ [.int .i64 e.cls, .int .i64 e.tag, .bool e.cons, .string ⟨e.bytes.toArray⟩, u]))
  (hg : w.grownBy w' v.ownBlock) (hat : v.ownBlock = some g ∨ g = H) (hH : w.heap.size = H) : OwnK B w' (.slice (some ⟨g, 0, none⟩) (ls.length + 1) cap) (ls ++ [e]) := by
 have hkeep : ∀ (u : Value) (ks : List El), KidsAt (fun g => v.ownBlock ≠ some g) w u ks → KidsAt (fun g' => (.slice (some ⟨g, 0, none⟩) (ls.length + 1) cap : Value).ownBlock ≠ some g') w' u ks := by
  intro u ks q
  refine q.kept fun g' hg' hl' => ⟨hg.block g' hl' (fun h => hg' h.symm), fun h => ?_⟩
  have hgg : g = g' := by simpa [Value.ownBlock] using h
  rcases hat with h1 | h1
  ·exact hg' (hgg ▸ h1)
  ·omega
 have hlen : (ls ++ [e]).length = ls.length + 1 := by simp
 refine ⟨us ++ [u], by simp [hu], ?_, fun j x y q1 q2 => ?_⟩
 ·rw [flatE_snoc _ _ _ _ hu, ← hl, hlen]
  exact ho
 ·by_cases hj : j < ls.length
  ·rw [List.getElem?_append_left hj] at q1
   rw [List.getElem?_append_left (by omega)] at q2
   exact hkeep _ _ (hk j x y q1 q2)
  ·have hj' : j = ls.length := by
    have := (List.getElem?_eq_some_iff.1 q1).1
    simp at this
    omega
   subst hj'
   rw [List.getElem?_append_right (Nat.le_refl _)] at q1
   rw [List.getElem?_append_right (by omega)] at q2
   simp [hu] at q1 q2
   subst q1
   subst q2
   exact hkeep _ _ hke
theorem wp_append_el {w : World} {o : Oper} {a : Act} {K : Act → World → Prop} {Q : Exit → Act → World → Prop} (s x : Operand) (ho : o.op = .call { callee := .builtin .append, args := #[s, x], argTypes := #[43, 43] })
  (B : Nat) (v : Value) (ls : List El) (hs : a.eval s = v) (hown : OwnK B w v ls) (e : El) (au : Option Addr) (n cu b : Nat) (hx : a.eval x = .slice (some ⟨b, 0, none⟩) 1 1) (hb : w.heap[b]? = some (.cells (elA e (.slice au n cu)) 45 (0, 0)))
  (hke : KidsAt (fun g => v.ownBlock ≠ some g) w (.slice au n cu) e.kids) (hl : ls.length ≤ 1000000000) (hB : B ≤ w.heap.size)
  (h : ∀ a' c' w', OwnK B w' (.slice a' (ls.length + 1) c') (ls ++ [e]) → w.grownBy w' v.ownBlock → K (a.put o.dst (.slice a' (ls.length + 1) c')) w') : Oper.wp Tryz.prog o a w K Q := by
 obtain ⟨i0, hi0, hz0, hz1, hz2⟩ := info_parts Tryz.infoElement
 obtain ⟨us, hu, hown', hk⟩ := hown
 refine wp_append_lies w s x 43 ho B 45 i0 _ 5 64 Tryz.underlying43 hi0 hz0 hz1 hz2 rfl (by decide) v ls.length (flatE ls us) hs hown' ⟨b, 0, none⟩ 1 1 [.int .i64 e.cls, .int .i64 e.tag, .bool e.cons, .string ⟨e.bytes.toArray⟩, .slice au n cu] hx rfl (World.news_of_block hb) (by simp [Value.oneCell']) (by decide) (by unfold maxLen; omega) (by omega) hB _ rfl ?_
 intro g cap w' q1 q2 q3 _
 exact h _ _ _ (own_more rfl hu hown' hk hke q1 q2 q3 rfl) q2
theorem wpList_append_el {w : World} {ops : Array Oper} {rest : List Oper} {o : Oper} {a : Act} {Q : Exit → Act → World → Prop} (hgd : o.guard = none) (s x : Operand) (ho : o.op = .call { callee := .builtin .append, args := #[s, x], argTypes := #[43, 43] })
  (B : Nat) (v : Value) (ls : List El) (hs : a.eval s = v) (hown : OwnK B w v ls) (e : El) (au : Option Addr) (n cu b : Nat) (hx : a.eval x = .slice (some ⟨b, 0, none⟩) 1 1) (hb : w.heap[b]? = some (.cells (elA e (.slice au n cu)) 45 (0, 0)))
  (hke : KidsAt (fun g => v.ownBlock ≠ some g) w (.slice au n cu) e.kids) (hl : ls.length ≤ 1000000000) (hB : B ≤ w.heap.size)
  (h : ∀ a' c' w', OwnK B w' (.slice a' (ls.length + 1) c') (ls ++ [e]) → w.grownBy w' v.ownBlock → wpList Tryz.prog ops Q rest (a.put o.dst (.slice a' (ls.length + 1) c')) w') : wpList Tryz.prog ops Q (o :: rest) a w :=
 wpList_plain hgd fun _ hK => wp_append_el s x ho B v ls hs hown e au n cu b hx hb hke hl hB fun a' c' w' h1 h2 => hK _ _ (h a' c' w' h1 h2)
end Go.Proofs.YthjaiigijbjloaaGreatDoor
