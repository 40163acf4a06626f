/- RgA, RwB. -/
import Derived.Test.YtegigcneimjimaaGreatDoorU17
namespace Go.Proofs.YtegigcneimjimaaGreatDoor
open Go.RowKit Go.Lib
set_option maxRecDepth 100000
set_option maxHeartbeats 16000000
theorem dist_put {us : List Value} {u u' : Value} {P : Nat} (h : Dist (us ++ [u])) (hP : ∀ (i : Nat) (x : Value), us[i]? = some x → ∀ k, x.ownBlock = some k → k < P) (hu : ∀ k, u'.ownBlock = some k → u.ownBlock = some k ∨ P ≤ k) : Dist (us ++ [u']) := by
  have hlast : (us ++ [u])[us.length]? = some u := by simp
  have hne : ∀ (i : Nat) (x : Value), us[i]? = some x → ∀ k, x.ownBlock = some k → u'.ownBlock ≠ some k := by
    intro i x hi k hk e
    have hil := (List.getElem?_eq_some_iff.1 hi).1
    rcases hu k e with h1 | h1
    · exact h i us.length x u (by rw [List.getElem?_append_left hil]; exact hi) hlast (by omega) k hk h1
    · have := hP i x hi k hk
      omega
  intro i j x y h1 h2 hij k hk
  by_cases hi : i < us.length
  · rw [List.getElem?_append_left hi] at h1
    by_cases hj : j < us.length
    · rw [List.getElem?_append_left hj] at h2
      exact h i j x y (by rw [List.getElem?_append_left hi]; exact h1) (by rw [List.getElem?_append_left hj]; exact h2) hij k hk
    · rw [List.getElem?_append_right (by omega)] at h2
      have : y = u' := by simpa using List.mem_of_getElem? h2
      subst this
      exact hne i x h1 k hk
  · rw [List.getElem?_append_right (by omega)] at h1
    have : x = u' := by simpa using List.mem_of_getElem? h1
    subst this
    have hj : j < us.length := by
      have h3 := (List.getElem?_eq_some_iff.1 h2).1
      simp at h3
      have h5 : i - us.length < 1 := (List.getElem?_eq_some_iff.1 h1).1
      omega
    rw [List.getElem?_append_left hj] at h2
    exact fun e => hne j y h2 k e hk
structure AG (B : Nat) (w : World) (v : Value) (acc : List At) (us : List Value) : Prop where
  ho : w.ownsRow B 179 2 v acc.length (flatA acc us)
  hl : us.length = acc.length
  hs : ∀ (j : Nat) (x : At) (u : Value), acc[j]? = some x → us[j]? = some u → w.ownsRow B 9 1 u x.2.length (sV x.2)
  hd : Dist us
theorem AG.kept {B : Nat} {w w' : World} {v : Value} {acc : List At} {us : List Value} (h : AG B w v acc us) (hk : ∀ k t, Ty w k t → xB t = true → w'.heap[k]? = w.heap[k]?) : AG B w' v acc us :=
  ⟨own_ty_kept h.ho (fun k ht => hk k _ ht (by decide)), h.hl, fun j x u a b => own_ty_kept (h.hs j x u a b) (fun k ht => hk k _ ht (by decide)), h.hd⟩
theorem AG.nil (B : Nat) (w : World) : AG B w (.slice none 0 0) [] [] := ⟨World.ownsRow_nil _ _ _ _, rfl, (fun j x u h => by cases h), (fun i j x y h => by cases h)⟩
theorem AG.ao {B : Nat} {w : World} {v : Value} {acc : List At} {us : List Value} (h : AG B w v acc us) : AO B w v acc := ⟨us, h.ho, h.hl, h.hs⟩
theorem AG.new {B : Nat} {w w' : World} {v v' : Value} {acc : List At} {us : List Value} {typ : List UInt8} (h : AG B w v acc us) (hg : w.grownBy w' v.ownBlock) (ho : w'.ownsRow B 179 2 v' (acc.length + 1) (flatA acc us ++ [.string ⟨typ.toArray⟩, .slice none 0 0])) :
    AG B w' v' (acc ++ [(typ, [])]) (us ++ [.slice none 0 0]) := by
  refine ⟨by rw [flatA_snoc _ _ _ _ h.hl, List.length_append]; exact ho, by simp [h.hl], ?_, h.hd.snoc (P := w.heap.size) ?_ (fun k hk => by cases hk)⟩
  · intro j x u h1 h2
    by_cases hj : j < acc.length
    · rw [List.getElem?_append_left hj] at h1
      rw [List.getElem?_append_left (by rw [h.hl]; exact hj)] at h2
      exact gow_far h.ho (h.hs j x u h1 h2) (by decide) hg
    · have hj2 : j = acc.length := by
        have := (List.getElem?_eq_some_iff.1 h1).1
        simp at this
        omega
      subst hj2
      rw [List.getElem?_append_right (Nat.le_refl _)] at h1
      rw [List.getElem?_append_right (by rw [h.hl]; exact Nat.le_refl _)] at h2
      simp at h1
      simp [h.hl] at h2
      subst h1 h2
      exact World.ownsRow_nil _ _ _ _
  · intro i x hi k hk
    have hil := (List.getElem?_eq_some_iff.1 hi).1
    have hil2 : i < acc.length := by rw [← h.hl]; exact hil
    exact ((h.hs i acc[i] x (List.getElem?_eq_getElem hil2) hi).lt k hk).2
theorem AG.put {B gA capA : Nat} {w w' : World} {init : List At} {usI : List Value} {typ v : List UInt8} {vs : List (List UInt8)} {u u' : Value} (hul : usI.length = init.length) (h : AG B w (.slice (some ⟨gA, 0, none⟩) (init.length + 1) capA) (init ++ [(typ, vs)]) (usI ++ [u]))
    (hg : w.grownBy w' u.ownBlock) (ho : w'.ownsRow B 9 1 u' (vs.length + 1) (sV vs ++ [.string ⟨v.toArray⟩])) (hat : u'.ownBlock = u.ownBlock ∨ ∀ k, u'.ownBlock = some k → w.heap.size ≤ k) :
    AG B (w'.setCell ⟨gA, init.length * 2 + 1, none⟩ u') (.slice (some ⟨gA, 0, none⟩) (init.length + 1) capA) (init ++ [(typ, vs ++ [v])]) (usI ++ [u']) := by
  have hho := h.ho
  rw [List.length_append] at hho
  have hlast : w.ownsRow B 9 1 u vs.length (sV vs) := h.hs init.length (typ, vs) u (by simp) (by rw [← hul]; simp)
  have ho1 := gow_far hlast hho (by decide) hg
  have hneA : ∀ {v : Value} {n : Nat} {xs : List Value} {W : World}, W.ownsRow B 179 2 (.slice (some ⟨gA, 0, none⟩) (init.length + 1) capA) (init.length + 1) (flatA (init ++ [(typ, vs)]) (usI ++ [u])) → W.ownsRow B 9 1 v n xs → v.ownBlock ≠ some gA :=
    fun a b e => absurd ((own_ty b e).eq (own_ty a rfl)) (by decide)
  refine ⟨?_, by simp [hul], ?_, dist_put (P := w.heap.size) h.hd ?_ (fun k hk => ?_)⟩
  · rw [List.length_append]
    obtain ⟨h1, _⟩ := ho1.stored (init.length * 2 + 1) u'
    rw [flatA_set init usI (typ, vs) u _ hul, flatA_last init typ vs (vs ++ [v])] at h1
    exact h1
  · intro j x y h1 h2
    by_cases hj : j < init.length
    · rw [List.getElem?_append_left hj] at h1
      rw [List.getElem?_append_left (by rw [hul]; exact hj)] at h2
      have hold := h.hs j x y (by rw [List.getElem?_append_left hj]; exact h1) (by rw [List.getElem?_append_left (by rw [hul]; exact hj)]; exact h2)
      have hne : y.ownBlock = none ∨ y.ownBlock ≠ u.ownBlock := own_or (h.hd j init.length y u (by rw [List.getElem?_append_left (by rw [hul]; exact hj)]; exact h2) (by rw [← hul]; simp) (by omega))
      have hold' := hold.kept hg hne
      exact gow_one hold' (hneA ho1 hold')
    · have hj2 : j = init.length := by
        have := (List.getElem?_eq_some_iff.1 h1).1
        simp at this
        omega
      subst hj2
      rw [List.getElem?_append_right (Nat.le_refl _)] at h1
      rw [List.getElem?_append_right (by rw [hul]; exact Nat.le_refl _)] at h2
      simp at h1
      simp [hul] at h2
      subst h1 h2
      rw [List.length_append, sV_append]
      exact gow_one ho (hneA ho1 ho)
  · intro i x hi k hk
    have hil := (List.getElem?_eq_some_iff.1 hi).1
    obtain ⟨y, hy⟩ : ∃ y, (init ++ [(typ, vs)])[i]? = some y := ⟨_, List.getElem?_eq_getElem (by simp; omega)⟩
    exact ((h.hs i y x hy (by rw [List.getElem?_append_left hil]; exact hi)).lt k hk).2
  · rcases hat with e | e
    · left; rw [← e]; exact hk
    · right; exact e k hk
structure MG (B : Nat) (w : World) (v : Value) (acc : List Md) (us : List Value) : Prop where
  ho : w.ownsRow B 182 3 v acc.length (flatM acc us)
  hl : us.length = acc.length
  hs : ∀ (j : Nat) (x : Md) (u : Value), acc[j]? = some x → us[j]? = some u → w.ownsRow B 9 1 u x.2.2.length (sV x.2.2)
  hd : Dist us
theorem MG.kept {B : Nat} {w w' : World} {v : Value} {acc : List Md} {us : List Value} (h : MG B w v acc us) (hk : ∀ k t, Ty w k t → xB t = true → w'.heap[k]? = w.heap[k]?) : MG B w' v acc us :=
  ⟨own_ty_kept h.ho (fun k ht => hk k _ ht (by decide)), h.hl, fun j x u a b => own_ty_kept (h.hs j x u a b) (fun k ht => hk k _ ht (by decide)), h.hd⟩
theorem MG.nil (B : Nat) (w : World) : MG B w (.slice none 0 0) [] [] := ⟨World.ownsRow_nil _ _ _ _, rfl, (fun j x u h => by cases h), (fun i j x y h => by cases h)⟩
theorem MG.mo {B : Nat} {w : World} {v : Value} {acc : List Md} {us : List Value} (h : MG B w v acc us) : MO B w v acc := ⟨us, h.ho, h.hl, h.hs⟩
theorem MG.new {B : Nat} {w w' : World} {v v' : Value} {acc : List Md} {us : List Value} {typ : List UInt8} {op : Int} (h : MG B w v acc us) (hg : w.grownBy w' v.ownBlock) (ho : w'.ownsRow B 182 3 v' (acc.length + 1) (flatM acc us ++ [.int .i64 op, .string ⟨typ.toArray⟩, .slice none 0 0])) :
    MG B w' v' (acc ++ [(op, typ, [])]) (us ++ [.slice none 0 0]) := by
  refine ⟨by rw [flatM_snoc _ _ _ _ h.hl, List.length_append]; exact ho, by simp [h.hl], ?_, h.hd.snoc (P := w.heap.size) ?_ (fun k hk => by cases hk)⟩
  · intro j x u h1 h2
    by_cases hj : j < acc.length
    · rw [List.getElem?_append_left hj] at h1
      rw [List.getElem?_append_left (by rw [h.hl]; exact hj)] at h2
      exact gow_far h.ho (h.hs j x u h1 h2) (by decide) hg
    · have hj2 : j = acc.length := by
        have := (List.getElem?_eq_some_iff.1 h1).1
        simp at this
        omega
      subst hj2
      rw [List.getElem?_append_right (Nat.le_refl _)] at h1
      rw [List.getElem?_append_right (by rw [h.hl]; exact Nat.le_refl _)] at h2
      simp at h1
      simp [h.hl] at h2
      subst h1 h2
      exact World.ownsRow_nil _ _ _ _
  · intro i x hi k hk
    have hil := (List.getElem?_eq_some_iff.1 hi).1
    have hil2 : i < acc.length := by rw [← h.hl]; exact hil
    exact ((h.hs i acc[i] x (List.getElem?_eq_getElem hil2) hi).lt k hk).2
theorem flatM_set : ∀ (ms : List Md) (us : List Value) (m : Md) (u x : Value), us.length = ms.length → (flatM (ms ++ [m]) (us ++ [u])).set (ms.length * 3 + 2) x = flatM (ms ++ [m]) (us ++ [x]) := by
  intro ms us m u x h
  rw [flatM_snoc ms us m u h, flatM_snoc ms us m x h, List.set_append_right _ _ (by rw [flatM_length ms us h]; omega), flatM_length ms us h]
  simp
theorem flatM_last : ∀ (init : List Md) (op : Int) (typ : List UInt8) (vs vs' : List (List UInt8)) (us : List Value), flatM (init ++ [(op, typ, vs)]) us = flatM (init ++ [(op, typ, vs')]) us
  | [], _, _, _, _, [] => rfl
  | [], _, _, _, _, _ :: _ => rfl
  | _ :: _, _, _, _, _, [] => rfl
  | x :: xs, op, typ, vs, vs', u :: us => by
    have := flatM_last xs op typ vs vs' us
    simp only [List.cons_append, flatM, this]
theorem MG.put {B gA capA : Nat} {w w' : World} {init : List Md} {usI : List Value} {op : Int} {typ v : List UInt8} {vs : List (List UInt8)} {u u' : Value} (hul : usI.length = init.length) (h : MG B w (.slice (some ⟨gA, 0, none⟩) (init.length + 1) capA) (init ++ [(op, typ, vs)]) (usI ++ [u]))
    (hg : w.grownBy w' u.ownBlock) (ho : w'.ownsRow B 9 1 u' (vs.length + 1) (sV vs ++ [.string ⟨v.toArray⟩])) (hat : u'.ownBlock = u.ownBlock ∨ ∀ k, u'.ownBlock = some k → w.heap.size ≤ k) :
    MG B (w'.setCell ⟨gA, init.length * 3 + 2, none⟩ u') (.slice (some ⟨gA, 0, none⟩) (init.length + 1) capA) (init ++ [(op, typ, vs ++ [v])]) (usI ++ [u']) := by
  have hho := h.ho
  rw [List.length_append] at hho
  have hlast : w.ownsRow B 9 1 u vs.length (sV vs) := h.hs init.length (op, typ, vs) u (by simp) (by rw [← hul]; simp)
  have ho1 := gow_far hlast hho (by decide) hg
  have hneA : ∀ {v : Value} {n : Nat} {xs : List Value} {W : World}, W.ownsRow B 182 3 (.slice (some ⟨gA, 0, none⟩) (init.length + 1) capA) (init.length + 1) (flatM (init ++ [(op, typ, vs)]) (usI ++ [u])) → W.ownsRow B 9 1 v n xs → v.ownBlock ≠ some gA :=
    fun a b e => absurd ((own_ty b e).eq (own_ty a rfl)) (by decide)
  refine ⟨?_, by simp [hul], ?_, dist_put (P := w.heap.size) h.hd ?_ (fun k hk => ?_)⟩
  · rw [List.length_append]
    obtain ⟨h1, _⟩ := ho1.stored (init.length * 3 + 2) u'
    rw [flatM_set init usI (op, typ, vs) u _ hul, flatM_last init op typ vs (vs ++ [v])] at h1
    exact h1
  · intro j x y h1 h2
    by_cases hj : j < init.length
    · rw [List.getElem?_append_left hj] at h1
      rw [List.getElem?_append_left (by rw [hul]; exact hj)] at h2
      have hold := h.hs j x y (by rw [List.getElem?_append_left hj]; exact h1) (by rw [List.getElem?_append_left (by rw [hul]; exact hj)]; exact h2)
      have hne : y.ownBlock = none ∨ y.ownBlock ≠ u.ownBlock := own_or (h.hd j init.length y u (by rw [List.getElem?_append_left (by rw [hul]; exact hj)]; exact h2) (by rw [← hul]; simp) (by omega))
      have hold' := hold.kept hg hne
      exact gow_one hold' (hneA ho1 hold')
    · have hj2 : j = init.length := by
        have := (List.getElem?_eq_some_iff.1 h1).1
        simp at this
        omega
      subst hj2
      rw [List.getElem?_append_right (Nat.le_refl _)] at h1
      rw [List.getElem?_append_right (by rw [hul]; exact Nat.le_refl _)] at h2
      simp at h1
      simp [hul] at h2
      subst h1 h2
      rw [List.length_append, sV_append]
      exact gow_one ho (hneA ho1 ho)
  · intro i x hi k hk
    have hil := (List.getElem?_eq_some_iff.1 hi).1
    obtain ⟨y, hy⟩ : ∃ y, (init ++ [(op, typ, vs)])[i]? = some y := ⟨_, List.getElem?_eq_getElem (by simp; omega)⟩
    exact ((h.hs i y x hy (by rw [List.getElem?_append_left hil]; exact hi)).lt k hk).2
  · rcases hat with e | e
    · left; rw [← e]; exact hk
    · right; exact e k hk
abbrev Tr := List UInt8 × List UInt8 × Bool
def flat3 (ps : List Tr) : List Value := ps.flatMap fun p => [.string ⟨p.1.toArray⟩, .string ⟨p.2.1.toArray⟩, .bool p.2.2]
theorem flat3_snoc (l : List Tr) (p : Tr) : flat3 (l ++ [p]) = flat3 l ++ [.string ⟨p.1.toArray⟩, .string ⟨p.2.1.toArray⟩, .bool p.2.2] := by simp [flat3]
theorem flat3_get : ∀ (l : List Tr) (j : Nat) (p : Tr), l[j]? = some p → (flat3 l)[j * 3]? = some (.string ⟨p.1.toArray⟩) ∧ (flat3 l)[j * 3 + 1]? = some (.string ⟨p.2.1.toArray⟩)
  | [], _, _, h => by simp at h
  | q :: l, 0, p, h => by
    simp only [List.getElem?_cons_zero, Option.some.injEq] at h
    subst h
    exact ⟨rfl, rfl⟩
  | q :: l, j + 1, p, h => by
    have := flat3_get l j p (by simpa using h)
    have e : flat3 (q :: l) = .string ⟨q.1.toArray⟩ :: .string ⟨q.2.1.toArray⟩ :: .bool q.2.2 :: flat3 l := by simp [flat3]
    rw [e, show (j + 1) * 3 = j * 3 + 3 by omega]
    exact this
theorem Tryz.infoTr : (Tryz.prog.info? 187).map (fun i => (i.zero, i.size, i.bytes)) = some (some (.agg #[.string ⟨#[]⟩, .string ⟨#[]⟩, .bool false]), 3, 40) := by kernel_rfl
structure RS (N : Nat) (w : World) (xs : Array Value) (vp : Value) (n : Nat) (ps : List Tr) (wr : World) : Prop where
  hc : wr.heap[N + 1]? = some (.cells xs 47 (0, 0))
  hr : wr.heap[N]? = some (.cells #[.string ⟨#[]⟩, .string ⟨#[]⟩, .string ⟨#[]⟩, .int .i64 0, .slice none 0 0, .slice none 0 0, .string ⟨#[]⟩, .string ⟨#[]⟩, .bool false, .bool false] 47 (0, 0))
  hp : wr.ownsRow (N + 2) 187 3 vp n (flat3 ps)
  hb : Below N w wr
theorem RS.size {N : Nat} {w : World} {xs : Array Value} {vp : Value} {n : Nat} {ps : List Tr} {wr : World} (h : RS N w xs vp n ps wr) : N + 1 < wr.heap.size := (Array.getElem?_eq_some_iff.1 h.hc).1
theorem RS.below {N : Nat} {w : World} {xs : Array Value} {vp : Value} {n : Nat} {ps : List Tr} {wr w' : World} (h : RS N w xs vp n ps wr) (hb : Below wr.heap.size wr w') : RS N w xs vp n ps w' :=
  have hs := h.size
  ⟨(hb.block _ hs).trans h.hc, (hb.block _ (by omega)).trans h.hr, own_below h.hp hb, h.hb.trans (hb.mono (by omega))⟩
theorem RS.grown {N : Nat} {w : World} {xs : Array Value} {vp l : Value} {n m s : Nat} {e : TypeId} {ys : List Value} {ps : List Tr} {wr w' : World} (h : RS N w xs vp n ps wr) (hl : wr.ownsRow (N + 2) e s l m ys) (he : e ≠ 187) (hg : wr.grownBy w' l.ownBlock) : RS N w xs vp n ps w' :=
  have hs := h.size
  ⟨(hg.block _ hs (fun e' => by have := (hl.lt _ e'.symm).1; omega)).trans h.hc, (hg.block _ (by omega) (fun e' => by have := (hl.lt _ e'.symm).1; omega)).trans h.hr, gow_far hl h.hp he hg,
    h.hb.grown hg (by omega) (fun k hk => by have := (hl.lt k hk).1; omega)⟩
theorem RS.push {N : Nat} {w : World} {xs : Array Value} {vp vp' : Value} {n n' : Nat} {ps ps' : List Tr} {wr w' : World} (h : RS N w xs vp n ps wr) (hg : wr.grownBy w' vp.ownBlock) (hp : w'.ownsRow (N + 2) 187 3 vp' n' (flat3 ps')) : RS N w xs vp' n' ps' w' :=
  have hs := h.size
  ⟨(hg.block _ hs (fun e' => by have := (h.hp.lt _ e'.symm).1; omega)).trans h.hc, (hg.block _ (by omega) (fun e' => by have := (h.hp.lt _ e'.symm).1; omega)).trans h.hr, hp,
    h.hb.grown hg (by omega) (fun k hk => by have := (h.hp.lt k hk).1; omega)⟩
theorem RS.set {N : Nat} {w : World} {xs : Array Value} {vp : Value} {n : Nat} {ps : List Tr} {wr : World} (h : RS N w xs vp n ps wr) (i : Nat) (x : Value) : RS N w (xs.setIfInBounds i x) vp n ps (wr.setCell ⟨N + 1, i, none⟩ x) :=
  ⟨setCell_at h.hc, (Below.heap_setCell wr ⟨N + 1, i, none⟩ x N (by show N ≠ N + 1; omega)).trans h.hr, gow_one h.hp (fun e => by have := (h.hp.lt _ e).1; omega), h.hb.setCell (p := ⟨N + 1, i, none⟩) (Nat.le_succ N) _⟩
theorem RS.put {N : Nat} {w : World} {y0 y1 y2 y3 y4 y5 y6 y7 y8 y9 : Value} {vp : Value} {n : Nat} {ps : List Tr} {wr : World} (h : RS N w #[y0, y1, y2, y3, y4, y5, y6, y7, y8, y9] vp n ps wr) (x0 x1 x2 x3 x4 x5 x6 x7 x8 x9 : Value) : RS N w #[x0, x1, x2, x3, x4, x5, x6, x7, x8, x9] vp n ps (put10 wr (N + 1) x0 x1 x2 x3 x4 x5 x6 x7 x8 x9) := by
  have hg := put10_grown wr (N + 1) x0 x1 x2 x3 x4 x5 x6 x7 x8 x9
  exact ⟨put10_at h.hc, (hg.block _ (by have := h.size; omega) (fun e => by injection e with e; omega)).trans h.hr, h.hp.kept hg (.inr (fun e => by have := (h.hp.lt _ e).1; omega)), h.hb.trans ((put10_below wr (N + 1) x0 x1 x2 x3 x4 x5 x6 x7 x8 x9).mono (Nat.le_succ N))⟩
theorem RS.drewN {N : Nat} {w : World} {xs : Array Value} {vp : Value} {n : Nat} {ps : List Tr} {wr : World} (h : RS N w xs vp n ps wr) (m : Nat) : RS N w xs vp n ps (wr.drewN m) := ⟨h.hc, h.hr, h.hp, below_drwN h.hb m⟩
theorem RS.drew {N : Nat} {w : World} {xs : Array Value} {vp : Value} {n : Nat} {ps : List Tr} {wr : World} (h : RS N w xs vp n ps wr) : RS N w xs vp n ps wr.drew := ⟨h.hc, h.hr, h.hp, h.hb.drew⟩
def kpn (v : List UInt8) : Nat → Int
  | 0 => -1
  | k + 1 => if kindW k = v then (k : Int) else kpn v k
theorem kpn_four (v : List UInt8) : kpn v 4 = kindN v := by
  have e : ∀ k : Int, (kindW k = v) = (v = kindW k) := fun k => propext ⟨Eq.symm, Eq.symm⟩
  simp only [kpn, kindN, e]
  rfl
def opn (v : List UInt8) : Nat → Int
  | 0 => -1
  | k + 1 => if opW k = v then (k : Int) else opn v k
theorem opn_three (v : List UInt8) : opn v 3 = opN v := by
  have e : ∀ k : Int, (opW k = v) = (v = opW k) := fun k => propext ⟨Eq.symm, Eq.symm⟩
  simp only [opn, opN, e]
  rfl
theorem AO.g {N : Nat} {w w' : World} {v : Value} {l : List At} (h : AO (N + 2) w v l) (hg : w.grownBy w' (some N)) : AO N w' v l := by
  obtain ⟨us, h1, h2, h3⟩ := h
  exact ⟨us, own_lower (h1.kept hg (.inr (fun e => by have := (h1.lt N e).1; omega))) (by omega), h2, fun j x u a b => own_lower ((h3 j x u a b).kept hg (.inr (fun e => by have := ((h3 j x u a b).lt N e).1; omega))) (by omega)⟩
theorem MO.g {N : Nat} {w w' : World} {v : Value} {l : List Md} (h : MO (N + 2) w v l) (hg : w.grownBy w' (some N)) : MO N w' v l := by
  obtain ⟨us, h1, h2, h3⟩ := h
  exact ⟨us, own_lower (h1.kept hg (.inr (fun e => by have := (h1.lt N e).1; omega))) (by omega), h2, fun j x u a b => own_lower ((h3 j x u a b).kept hg (.inr (fun e => by have := ((h3 j x u a b).lt N e).1; omega))) (by omega)⟩
theorem AO.nil (B : Nat) (w : World) : AO B w (.slice none 0 0) [] := ⟨[], World.ownsRow_nil _ _ _ _, rfl, fun j x u h => by cases h⟩
theorem MO.nil (B : Nat) (w : World) : MO B w (.slice none 0 0) [] := ⟨[], World.ownsRow_nil _ _ _ _, rfl, fun j x u h => by cases h⟩
theorem RS.pc {N : Nat} {w : World} {xs : Array Value} {g n cp : Nat} {s0 s1 s2 s3 : List UInt8} {t : List (List UInt8)} {wr : World} (h : RS N w xs (.slice (some ⟨g, 0, none⟩) n cp) n ((s0 :: s1 :: s2 :: s3 :: t).map splitR) wr) {j : Nat} {x : List UInt8} (hj : t[j]? = some x) :
    wr.cell? ⟨g, 12 + j * 3, none⟩ = some (.string ⟨(snd2 x).1.toArray⟩) ∧ wr.cell? ⟨g, 12 + j * 3 + 1, none⟩ = some (.string ⟨(snd2 x).2.toArray⟩) := by
  have h1 : ((s0 :: s1 :: s2 :: s3 :: t).map splitR)[j + 4]? = some (splitR x) := by
    rw [List.getElem?_map]
    simp [hj]
  obtain ⟨e1, e2⟩ := flat3_get _ _ _ h1
  rw [show (j + 4) * 3 = 12 + j * 3 by omega] at e1 e2
  exact ⟨(own_cell h.hp e1).1, (own_cell h.hp e2).1⟩
def v0F (t : List (List UInt8)) (i : Nat) : List UInt8 := ((t.map snd2)[i]?.getD (([], []) : Pr)).2
theorem v0F_at {t : List (List UInt8)} {i : Nat} {x : List UInt8} (h : t[i]? = some x) : v0F t i = (snd2 x).2 := by simp [v0F, h]
theorem v0F_no {t : List (List UInt8)} {i : Nat} (h : t.length ≤ i) : v0F t i = [] := by simp [v0F, h]
theorem anyT_two {P : Program} {md : Region.Mode} {ops : Array Oper} {Q : Exit → Act → World → Prop} {S : World → Prop} {st : Nat} (i j : Nat) {o o' : Oper} {fuel : Nat} {listed : Array Bool} {a : Act} {w : World} (hr : Region.ready md ops listed = [i, j]) (ho : ops[i]? = some o) (hw : Region.wanted o (yielded ops a.tmps) = true) (ho' : ops[j]? = some o') (hw' : Region.wanted o' (yielded ops a.tmps) = true)
    (h : ∀ K' : Act → World → Prop, (∀ a w, ((listed.setIfInBounds i true).getD st false = true ∨ S w) → anyT P md ops Q S st fuel (listed.setIfInBounds i true) a w → K' a w) → Oper.wp P o a w K' Q)
    (h' : ∀ K' : Act → World → Prop, (∀ a w, ((listed.setIfInBounds j true).getD st false = true ∨ S w) → anyT P md ops Q S st fuel (listed.setIfInBounds j true) a w → K' a w) → Oper.wp P o' a w K' Q) : anyT P md ops Q S st (fuel + 1) listed a w := by
  refine ⟨fun h0 => (by rw [hr] at h0; cases h0), fun k hk => ?_⟩
  rw [hr] at hk
  simp only [List.mem_cons, List.not_mem_nil, or_false] at hk
  rcases hk with rfl | rfl
  · unfold wpOp
    rw [ho]
    simp only [hw, if_true]
    exact .inl (h _ (fun _ _ s k => ⟨s, k⟩))
  · unfold wpOp
    rw [ho']
    simp only [hw', if_true]
    exact .inl (h' _ (fun _ _ s k => ⟨s, k⟩))
theorem AG.setN {N i : Nat} {w : World} {v x : Value} {acc : List At} {us : List Value} (h : AG (N + 2) w v acc us) : AG (N + 2) (w.setCell ⟨N + 1, i, none⟩ x) v acc us :=
  ⟨gow_one h.ho (fun e => by have := (h.ho.lt _ e).1; omega), h.hl, fun j y u a b => gow_one (h.hs j y u a b) (fun e => by have := ((h.hs j y u a b).lt _ e).1; omega), h.hd⟩
theorem MG.setN {N i : Nat} {w : World} {v x : Value} {acc : List Md} {us : List Value} (h : MG (N + 2) w v acc us) : MG (N + 2) (w.setCell ⟨N + 1, i, none⟩ x) v acc us :=
  ⟨gow_one h.ho (fun e => by have := (h.ho.lt _ e).1; omega), h.hl, fun j y u a b => gow_one (h.hs j y u a b) (fun e => by have := ((h.hs j y u a b).lt _ e).1; omega), h.hd⟩
theorem AG.dr {B : Nat} {w : World} {v : Value} {acc : List At} {us : List Value} (h : AG B w v acc us) (n : Nat) : AG B (w.drewN n) v acc us := ⟨h.ho, h.hl, h.hs, h.hd⟩
theorem MG.dr {B : Nat} {w : World} {v : Value} {acc : List Md} {us : List Value} (h : MG B w v acc us) (n : Nat) : MG B (w.drewN n) v acc us := ⟨h.ho, h.hl, h.hs, h.hd⟩
theorem AG.dr1 {B : Nat} {w : World} {v : Value} {acc : List At} {us : List Value} (h : AG B w v acc us) : AG B w.drew v acc us := ⟨h.ho, h.hl, h.hs, h.hd⟩
theorem MG.dr1 {B : Nat} {w : World} {v : Value} {acc : List Md} {us : List Value} (h : MG B w v acc us) : MG B w.drew v acc us := ⟨h.ho, h.hl, h.hs, h.hd⟩
theorem AG.below {B : Nat} {w w' : World} {v : Value} {acc : List At} {us : List Value} (h : AG B w v acc us) (hb : Below w.heap.size w w') : AG B w' v acc us :=
  ⟨ownBelow h.ho hb, h.hl, fun j x u a b => ownBelow (h.hs j x u a b) hb, h.hd⟩
theorem MG.below {B : Nat} {w w' : World} {v : Value} {acc : List Md} {us : List Value} (h : MG B w v acc us) (hb : Below w.heap.size w w') : MG B w' v acc us :=
  ⟨ownBelow h.ho hb, h.hl, fun j x u a b => ownBelow (h.hs j x u a b) hb, h.hd⟩
theorem RS.setO {N : Nat} {w : World} {xs : Array Value} {vp : Value} {n : Nat} {ps : List Tr} {wr : World} {G m c m' e s i : Nat} {ys : List Value} (h : RS N w xs vp n ps wr) (hl : wr.ownsRow (N + 2) e s (.slice (some ⟨G, 0, none⟩) m c) m' ys) (he : 187 ≠ e) (x : Value) : RS N w xs vp n ps (wr.setCell ⟨G, i, none⟩ x) := by
  have hG := (hl.lt G rfl).1
  exact ⟨(Below.heap_setCell wr ⟨G, i, none⟩ x (N + 1) (by show N + 1 ≠ G; omega)).trans h.hc, (Below.heap_setCell wr ⟨G, i, none⟩ x N (by show N ≠ G; omega)).trans h.hr, gow_one h.hp (fun e' => he ((own_ty h.hp e').eq (own_ty hl rfl))), h.hb.setCell (p := ⟨G, i, none⟩) (by show N ≤ G; omega) _⟩
theorem RS.setT {N : Nat} {w : World} {xs : Array Value} {vp : Value} {n : Nat} {ps : List Tr} {wr : World} {G i : Nat} {cs : Array Value} {e : TypeId} {fr : Nat × Nat} (h : RS N w xs vp n ps wr) (hG : wr.heap[G]? = some (.cells cs e fr)) (h1 : 187 ≠ e) (h2 : 47 ≠ e) (hN : N ≤ G) (x : Value) : RS N w xs vp n ps (wr.setCell ⟨G, i, none⟩ x) := by
  have n1 : N + 1 ≠ G := by
    rintro rfl
    rw [h.hc] at hG
    cases hG
    exact h2 rfl
  have n0 : N ≠ G := by
    rintro rfl
    rw [h.hr] at hG
    cases hG
    exact h2 rfl
  exact ⟨(Below.heap_setCell wr ⟨G, i, none⟩ x (N + 1) n1).trans h.hc, (Below.heap_setCell wr ⟨G, i, none⟩ x N n0).trans h.hr, gow_one h.hp (fun e' => h1 ((own_ty h.hp e').eq ⟨_, _, hG⟩)), h.hb.setCell (p := ⟨G, i, none⟩) hN _⟩
theorem MG.setT {B G i : Nat} {w : World} {v x : Value} {acc : List Md} {us : List Value} {cs : Array Value} {e : TypeId} {fr : Nat × Nat} (h : MG B w v acc us) (hG : w.heap[G]? = some (.cells cs e fr)) (h1 : 9 ≠ e) (hv : ∀ b, v.ownBlock = some b → b < G) : MG B (w.setCell ⟨G, i, none⟩ x) v acc us :=
  ⟨gow_one h.ho (fun e' => by have := hv G e'; omega), h.hl, fun j y u a b => gow_one (h.hs j y u a b) (fun e' => h1 ((own_ty (h.hs j y u a b) e').eq ⟨_, _, hG⟩)), h.hd⟩
def AF (T0 T1 T2 : List UInt8) (vA : Value) : Array Value := #[.string ⟨T0.toArray⟩, .string ⟨T1.toArray⟩, .string ⟨T2.toArray⟩, .int .i64 0, vA, .slice none 0 0, .string ⟨#[]⟩, .string ⟨#[]⟩, .bool false, .bool false]
def MF (T0 T1 T2 : List UInt8) (vM : Value) : Array Value := #[.string ⟨T0.toArray⟩, .string ⟨T1.toArray⟩, .string ⟨T2.toArray⟩, .int .i64 2, .slice none 0 0, vM, .string ⟨#[]⟩, .string ⟨#[]⟩, .bool false, .bool false]
def AQ2 (N : Nat) (w : World) (T0 T1 T2 : List UInt8) (vp : Value) (n : Nat) (ps : List Tr) (acc : List At) (nm vl : List UInt8) (k : Nat) (q : Value) (wx : World) : Prop :=
  ∃ (init : List At) (usI : List Value) (u : Value) (vs : List (List UInt8)) (vA : Value), q = .int .i64 ((init.length + 1 : Nat) : Int) ∧ RS N w (AF T0 T1 T2 vA) vp n ps wx ∧ AG (N + 2) wx vA (init ++ [(nm, vs)]) (usI ++ [u]) ∧ usI.length = init.length ∧
    putA (nm, vl) acc = init ++ [(nm, vs ++ [vl])] ∧ init.length ≤ acc.length ∧ vs.length ≤ k ∧ ∀ x ∈ init, x.2.length ≤ k
def nwB (acc : List At) (typ : List UInt8) : Bool := match acc.getLast? with | none => true | some a => !(a.1 == typ)
theorem nw_new {acc : List At} {nm vl : List UInt8} (h : nwB acc nm = true) : putA (nm, vl) acc = acc ++ [(nm, [] ++ [vl])] := by
  unfold nwB at h
  unfold putA
  split at h
  · rename_i hg
    have : acc = [] := by simpa using hg
    rw [this]; rfl
  · rename_i a hg
    rw [hg]
    have : ¬ a.1 = nm := by simpa using h
    simp [this]
theorem nw_old {acc : List At} {nm : List UInt8} (vl : List UInt8) (h : nwB acc nm = false) : ∃ init vs, acc = init ++ [(nm, vs)] ∧ putA (nm, vl) acc = init ++ [(nm, vs ++ [vl])] := by
  unfold nwB at h
  rcases List.eq_nil_or_concat acc with rfl | ⟨init, bb, hcon⟩
  · simp at h
  · obtain ⟨ty, vs⟩ := bb
    rw [List.concat_eq_append] at hcon
    subst hcon
    have e : ty = nm := by simpa using h
    subst e
    exact ⟨init, vs, rfl, by simp [putA]⟩
def MV (T0 T1 T2 : List UInt8) (t : List (List UInt8)) (k : Nat) : Array Value :=
  #[.string ⟨T0.toArray⟩, .string ⟨T1.toArray⟩, .string ⟨T2.toArray⟩, .int .i64 3, .slice none 0 0, .slice none 0 0, .string ⟨(if 0 < k then v0F t 0 else []).toArray⟩, .string ⟨(if 2 < k then v0F t 2 else []).toArray⟩, .bool (decide (1 < k) && decide (v0F t 1 = [49])), .bool (decide (2 < k))]
theorem MV_one (T0 T1 T2 : List UInt8) (t : List (List UInt8)) : (MV T0 T1 T2 t 0).setIfInBounds 6 (.string ⟨(v0F t 0).toArray⟩) = MV T0 T1 T2 t 1 := rfl
theorem MV_two (T0 T1 T2 : List UInt8) (t : List (List UInt8)) : (MV T0 T1 T2 t 1).setIfInBounds 8 (.bool (decide (v0F t 1 = [49]))) = MV T0 T1 T2 t 2 := rfl
theorem MV_three (T0 T1 T2 : List UInt8) (t : List (List UInt8)) : ((MV T0 T1 T2 t 2).setIfInBounds 9 (.bool true)).setIfInBounds 7 (.string ⟨(v0F t 2).toArray⟩) = MV T0 T1 T2 t 3 := rfl
theorem MV_more (T0 T1 T2 : List UInt8) (t : List (List UInt8)) (k : Nat) (h : 3 ≤ k) : MV T0 T1 T2 t k = MV T0 T1 T2 t (k + 1) := by
  unfold MV
  rw [if_pos (by omega), if_pos (by omega), if_pos (by omega), if_pos (by omega), decide_eq_true (show 1 < k by omega), decide_eq_true (show 2 < k by omega), decide_eq_true (show 1 < k + 1 by omega), decide_eq_true (show 2 < k + 1 by omega)]
theorem MV_end (T0 T1 T2 : List UInt8) (t : List (List UInt8)) : ∃ A6 A7 A8 A9, MV T0 T1 T2 t t.length = #[.string ⟨T0.toArray⟩, .string ⟨T1.toArray⟩, .string ⟨T2.toArray⟩, .int .i64 3, .slice none 0 0, .slice none 0 0, .string ⟨List.toArray A6⟩, .string ⟨List.toArray A7⟩, .bool A8, .bool A9] ∧
    A6 = v0F t 0 ∧ A7 = v0F t 2 ∧ A8 = decide (v0F t 1 = [49]) ∧ A9 = decide (2 < t.length) := by
  refine ⟨_, _, _, _, rfl, ?_, ?_, ?_, rfl⟩
  · split
    · rfl
    · rw [v0F_no (by omega)]
  · split
    · rfl
    · rw [v0F_no (by omega)]
  · by_cases h : 1 < t.length
    · simp [h]
    · rw [v0F_no (by omega)]
      simp [h]
end Go.Proofs.YtegigcneimjimaaGreatDoor
