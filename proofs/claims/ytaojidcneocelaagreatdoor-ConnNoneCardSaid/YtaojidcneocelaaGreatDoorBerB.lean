/- ber.copies: what it returns. -/
import Derived.Test.YtaojidcneocelaaGreatDoorBerA
import Derived.Test.YtaojidcneocelaaGreatDoorGen
import Derived.Deep.AppendLies
namespace Go.Proofs.YtaojidcneocelaaGreatDoor
open Go.RowKit Go.Lib

theorem Tryz.infoElement : (Tryz.prog.info? 76).map (fun i => (i.zero, i.size, i.bytes)) = some (some (.agg #[.int .i64 0, .int .i64 0, .bool false, .string ⟨#[]⟩, .slice none 0 0]), 5, 64) := by kernel_rfl
/-- The cells of a list of elements, the values of what is within them beside them. -/
def flatE : List El → List Value → List Value
  | [], _ => []
  | _ :: _, [] => []
  | e :: es, u :: us => .int .i64 e.cls :: .int .i64 e.tag :: .bool e.cons :: .string ⟨e.bytes.toArray⟩ :: u :: flatE es us
theorem flatE_length : ∀ (es : List El) (us : List Value), us.length = es.length → (flatE es us).length = es.length * 5
  | [], _, _ => rfl
  | _ :: _, [], h => by simp at h
  | e :: es, u :: us, h => by
    have := flatE_length es us (by simpa using h)
    simp only [flatE, List.length_cons, this]
    omega
theorem flatE_snoc : ∀ (es : List El) (us : List Value) (e : El) (u : Value), us.length = es.length → flatE (es ++ [e]) (us ++ [u]) = flatE es us ++ [.int .i64 e.cls, .int .i64 e.tag, .bool e.cons, .string ⟨e.bytes.toArray⟩, u]
  | [], [], _, _, _ => rfl
  | [], _ :: _, _, _, h => by simp at h
  | _ :: _, [], _, _, h => by simp at h
  | x :: es, v :: us, e, u, h => by
    have := flatE_snoc es us e u (by simpa using h)
    simp only [List.cons_append, flatE, this]
theorem flatE_get : ∀ (es : List El) (us : List Value) (j : Nat) (e : El) (u : Value), es[j]? = some e → us[j]? = some u →
    (flatE es us)[j * 5]? = some (.int .i64 e.cls) ∧ (flatE es us)[j * 5 + 1]? = some (.int .i64 e.tag) ∧ (flatE es us)[j * 5 + 2]? = some (.bool e.cons) ∧ (flatE es us)[j * 5 + 3]? = some (.string ⟨e.bytes.toArray⟩) ∧ (flatE es us)[j * 5 + 4]? = some u
  | [], _, _, _, _, h, _ => by simp at h
  | _ :: _, [], _, _, _, _, h => by simp at h
  | x :: es, v :: us, 0, e, u, h1, h2 => by
    simp at h1 h2; subst h1 h2
    exact ⟨rfl, rfl, rfl, rfl, rfl⟩
  | x :: es, v :: us, j + 1, e, u, h1, h2 => by
    have := flatE_get es us j e u (by simpa using h1) (by simpa using h2)
    rw [show (j + 1) * 5 = j * 5 + 5 by omega]
    exact this
theorem ElsC.of {P : Nat → Prop} {w : World} : ∀ (l : List El) (g o : Nat), (∀ (j : Nat) (e : El), l[j]? = some e → ElC P w e g (o + j * 5)) → ElsC P w l g o
  | [], _, _, _ => by simp only [ElsC]
  | x :: r, g, o, h => by
    simp only [ElsC]
    refine ⟨by simpa using h 0 x rfl, ElsC.of r g (o + 5) fun j e hj => ?_⟩
    have := h (j + 1) e (by simpa using hj)
    rw [show o + (j + 1) * 5 = o + 5 + j * 5 by omega] at this
    exact this
theorem kids_own {P : Nat → Prop} {N : Nat} {w : World} {v : Value} {l : List El} {us : List Value} (h : w.ownsRow N 76 5 v l.length (flatE l us)) (hl : us.length = l.length)
    (hk : ∀ (j : Nat) (e : El) (u : Value), l[j]? = some e → us[j]? = some u → KidsAt P w u e.kids) (hP : ∀ g, N ≤ g → P g) : KidsAt P w v l := by
  rcases id h.2 with ⟨rfl, h0⟩ | ⟨g, cap, cur, rfl, hb, hg, hc, _⟩
  · have : l = [] := List.length_eq_zero_iff.1 h0
    subst this
    exact KidsAt.nil _ _
  · refine ⟨some ⟨g, 0, none⟩, cap, rfl, hc, fun _ => ⟨g, 0, rfl, hP g hb, ElsC.of l g 0 fun j e hj => ?_⟩⟩
    obtain ⟨u, hu⟩ : ∃ u, us[j]? = some u := ⟨us[j]'(by rw [hl]; exact (List.getElem?_eq_some_iff.1 hj).1), List.getElem?_eq_getElem _⟩
    obtain ⟨q0, q1, q2, q3, q4⟩ := flatE_get l us j e u hj hu
    rw [Nat.zero_add]
    exact ElC.mk (own_cell h q0).1 (own_cell h q1).1 (own_cell h q2).1 (own_cell h q3).1 (own_cell h q4).1 (hk j e u hj hu)
-- COPIES
/-- Behind k elements that were copied. -/
def CpRel (w : World) (l : List El) (v i : Value) (wr : World) : Prop :=
  ∃ (k : Nat) (us : List Value), i = .int .i64 (k : Int) ∧ k ≤ l.length ∧ wr.ownsRow w.heap.size 76 5 v k (flatE (l.take k) us) ∧ us.length = k ∧ Below w.heap.size w wr ∧
    ∀ (j : Nat) (e : El) (u : Value), (l.take k)[j]? = some e → us[j]? = some u → KidsAt (fun g => w.heap.size ≤ g ∧ v.ownBlock ≠ some g) wr u e.kids
theorem SmE_parts {e : El} (h : SmE e) : e.bytes.length ≤ 1000000000 ∧ e.kids.length ≤ 1000000000 ∧ SmL e.kids := by
  cases e
  simpa only [SmE, El.bytes, El.kids] using h
theorem depE_kids (e : El) : depE e = depL e.kids + 1 := by
  cases e
  simp only [depE, El.kids]
set_option maxRecDepth 100000 in
set_option maxHeartbeats 4000000 in
theorem copies_any (n : Nat) : ∀ (l : List El), depL l ≤ n → SmL l → l.length ≤ 1000000000 → ∀ (v : Value) (w : World), KidsAt (fun _ => True) w v l →
    Calls Tryz.prog 111 #[v] w fun e w' => (∃ v', e = .returned v' ∧ KidsAt (fun g => w.heap.size ≤ g) w' v' l) ∧ Below w.heap.size w w' := by
  induction n using Nat.strongRecOn with
  | ind n ih =>
  intro l hd hs hll v w h
  obtain ⟨i0, hi0, hz0, hz1, hz2⟩ := info_parts Tryz.infoElement
  have H := Lib.hid h
  have HD := Lib.hid hd
  have HS := Lib.hid hs
  have IH := Lib.hid ih
  clear hd hs ih
  obtain ⟨a, cap, rfl, hc, hk0⟩ := h
  clear hk0
  go_enter Tryz.func111, Tryz.ntmps111
  go_wp2_with fail
  go_loopw [3, 8] (fun v i wr => CpRel w l v i wr) (fun _ i _ => l.length - (RowKit.intOf i).toNat)
  case atStart => exact ⟨0, [], rfl, Nat.zero_le _, World.ownsRow_nil _ _ _ _, rfl, Below.refl _ _, fun j e u h => by simp at h⟩
  case round =>
    obtain ⟨k, us, rfl, hk, hown, hul, hbe, hkids⟩ := hrel
    obtain ⟨av, cv, hfv⟩ := own_shape hown
    subst hfv
    by_cases hkl : k < l.length
    · obtain ⟨e, he⟩ : ∃ e, l[k]? = some e := ⟨l[k], List.getElem?_eq_getElem hkl⟩
      obtain ⟨a', cap', e', _, hsrc⟩ := H.out.below hbe
      cases e'
      obtain ⟨g, o, ha, _, hcells⟩ := hsrc (by intro h0; rw [h0] at hkl; simp at hkl)
      subst ha
      obtain ⟨p0, p1, p2, p3, u, p4, hu⟩ := (ElsC.get l g o k e hcells he).cells
      obtain ⟨au, cu, hfu⟩ := hu.shape
      subst hfu
      obtain ⟨sb, sk, sl⟩ := SmE_parts (SmL_get l k e HS.out he)
      have hdep : depL e.kids < n := by have h1 := depL_get l k e he; have h2 := depE_kids e; have := HD.out; omega
      have i1 : (k : Int) < (l.length : Int) := by omega
      have i3 : decide ((k : Int) < (l.length : Int)) = true := decide_eq_true i1
      have hlt := hown.lt
      have HE := Lib.hid he
      have HK := Lib.hid hkids
      have HO := Lib.hid hown
      have hszr := hbe.size
      clear hsrc hcells he hkids hown
      go_wp2_with fail
      have n1 : Below wr.heap.size wr (wr.alloc (.cells #[.int .i64 e.cls, .int .i64 e.tag, .bool e.cons, .string ⟨e.bytes.toArray⟩, .slice au e.kids.length cu] 76)) := (Below.refl _ _).alloc (Nat.le_refl _) _
      have n2 : (wr.alloc (.cells #[.int .i64 e.cls, .int .i64 e.tag, .bool e.cons, .string ⟨e.bytes.toArray⟩, .slice au e.kids.length cu] 76)).heap[wr.heap.size]? = some (.cells (elA e (.slice au e.kids.length cu)) 76 (0, 0)) := alloc_at _ _ _ rfl
      generalize wr.alloc (.cells #[.int .i64 e.cls, .int .i64 e.tag, .bool e.cons, .string ⟨e.bytes.toArray⟩, .slice au e.kids.length cu] 76) = w1 at n1 n2 ⊢
      have q4 : w1.cell? ⟨wr.heap.size, 4, none⟩ = some (.slice au e.kids.length cu) := (Lib.cell_of_heap n2 4).trans rfl
      have kc := IH.out (depL e.kids) hdep e.kids (Nat.le_refl _) sl sk _ w1 (hu.below n1)
      refine Calls.mono (show Calls _ _ _ _ _ from kc) ?_
      rintro e2 w2 ⟨⟨u2, rfl, hu2⟩, hb2⟩
      obtain ⟨a2, c2, hf2⟩ := hu2.shape
      subst hf2
      have hB1 := (Array.getElem?_eq_some_iff.1 n2).1
      have n3 := (hb2.block _ hB1).trans n2
      have q5 := (hb2.cell (lt_of_cell q4)).trans q4
      have z5 := Lib.frozen_of_heap n3 4
      have n4 : (w2.setCell ⟨wr.heap.size, 4, none⟩ (.slice a2 e.kids.length c2)).heap[wr.heap.size]? = some (.cells #[.int .i64 e.cls, .int .i64 e.tag, .bool e.cons, .string ⟨e.bytes.toArray⟩, .slice a2 e.kids.length c2] 76 (0, 0)) := setCell_at (i := 4) (u := .slice a2 e.kids.length c2) n3
      have hown3 : (w2.setCell ⟨wr.heap.size, 4, none⟩ (.slice a2 e.kids.length c2)).ownsRow w.heap.size 76 5 (.slice av k cv) k (flatE (l.take k) us) :=
        (own_below (own_below HO.out n1) hb2).kept (grown_set w2 wr.heap.size 4 _) (.inr (fun h => by have := (hlt _ h).2; omega))
      have hs1 := n1.size
      have hs2 := hb2.size
      have hs3 : (w2.setCell ⟨wr.heap.size, 4, none⟩ (.slice a2 e.kids.length c2)).heap.size = w2.heap.size := by simp [World.setCell]
      have hB3 : Below w.heap.size w (w2.setCell ⟨wr.heap.size, 4, none⟩ (.slice a2 e.kids.length c2)) := ((hbe.trans (n1.mono hszr)).trans (hb2.mono (by omega))).setCell (p := ⟨wr.heap.size, 4, none⟩) hszr _
      have hold : ∀ g, g < wr.heap.size → (w2.setCell ⟨wr.heap.size, 4, none⟩ (.slice a2 e.kids.length c2)).heap[g]? = wr.heap[g]? := fun g hg => (Below.heap_setCell w2 ⟨wr.heap.size, 4, none⟩ _ g (by show g ≠ wr.heap.size; omega)).trans ((hb2.block g (by omega)).trans (n1.block g hg))
      have hnew : ∀ g, w1.heap.size ≤ g → (w2.setCell ⟨wr.heap.size, 4, none⟩ (.slice a2 e.kids.length c2)).heap[g]? = w2.heap[g]? := fun g hg => Below.heap_setCell w2 ⟨wr.heap.size, 4, none⟩ _ g (by show g ≠ wr.heap.size; omega)
      have HOLD := Lib.hid hold
      have HNEW := Lib.hid hnew
      have HLT := Lib.hid hlt
      clear q4 n2 n3 kc hu hold hnew hlt p0 p1 p2 p3 p4
      have hs3' := Nat.le_of_eq hs3.symm
      clear hs3
      go_wp2_with (first
        | (generalize (w2.setCell ⟨wr.heap.size, 4, none⟩ (.slice a2 e.kids.length c2)) = w3 at n4 hown3 hs3' hB3 HOLD HNEW ⊢; refine wpList_loadRow rfl 76 (.tmp 5) rfl wr.heap.size 76 _ (0, 0) (by rfl) n4 _ Tryz.underlying76 rfl (by rfl) ?_)
        | (at_builtin; refine wpList_append_lies _ rfl (.tmp 16) (.tmp 18) 74 rfl w.heap.size 76 i0 _ 5 64 Tryz.underlying74 hi0 hz0 hz1 hz2 rfl (by decide) (.slice av k cv) k (flatE (l.take k) us) rfl (hown3.alloc _) ⟨w3.heap.size, 0, none⟩ 1 1 [.int .i64 e.cls, .int .i64 e.tag, .bool e.cons, .string ⟨e.bytes.toArray⟩, .slice a2 e.kids.length c2] rfl rfl (World.news_of_block (alloc_at _ _ _ rfl)) (by simp [Value.oneCell']) (by decide) (by unfold maxLen; omega) (by omega) (by simp; omega) (w3.heap.size + 1) (by simp) ?_; intro g5 cap5 w5 ho5 hg5 hat5 hlt5))
      have hts : l.take (k + 1) = l.take k ++ [e] := by rw [List.take_add_one, HE.out]; rfl
      have hlk : us.length = (l.take k).length := by rw [hul, List.length_take]; omega
      refine ⟨⟨k + 1, us ++ [.slice a2 e.kids.length c2], by go_num, by omega, by rw [hts, flatE_snoc _ _ _ _ hlk]; exact ho5, by simp [hul], (hB3.alloc (by omega) _).grown hg5 (by simp; omega) (fun b hb => (HLT.out b hb).1), fun j e' u' q1 q2 => ?_⟩, by simp [RowKit.intOf]; omega⟩
      have hown5 : ∀ g', g' < w3.heap.size → (.slice av k cv : Value).ownBlock ≠ some g' → w5.heap[g']? = w3.heap[g']? ∧ (.slice (some ⟨g5, 0, none⟩) (k + 1) cap5 : Value).ownBlock ≠ some g' := by
        intro g' hg' hne
        refine ⟨(hg5.block g' (by simp; omega) (fun h => hne h.symm)).trans (Lib.alloc_old _ _ _ hg'), fun h => ?_⟩
        rcases hat5 with h5 | h5
        · have : g5 = g' := by simpa [Value.ownBlock] using h
          subst this
          exact hne h5
        · have : g5 = g' := by simpa [Value.ownBlock] using h
          omega
      rw [hts] at q1
      by_cases hjk : j < k
      · rw [List.getElem?_append_left (by rw [← hlk, hul]; exact hjk)] at q1
        rw [List.getElem?_append_left (by rw [hul]; exact hjk)] at q2
        refine (HK.out j e' u' q1 q2).kept fun g' hg' hlt' => ?_
        obtain ⟨r1, r2⟩ := hown5 g' (by omega) hg'.2
        exact ⟨r1.trans (HOLD.out g' hlt'), hg'.1, r2⟩
      · have hj : j = k := by
          have := (List.getElem?_eq_some_iff.1 q2).1
          simp [hul] at this
          omega
        subst hj
        rw [List.getElem?_append_right (by rw [← hlk, hul]; exact Nat.le_refl _), ← hlk, hul, Nat.sub_self] at q1
        rw [List.getElem?_append_right (by rw [hul]; exact Nat.le_refl _), hul, Nat.sub_self] at q2
        cases q1
        cases q2
        refine hu2.kept fun g' hg' hlt' => ?_
        obtain ⟨r1, r2⟩ := hown5 g' (by omega) (fun h => by have := (HLT.out g' h).2; omega)
        exact ⟨r1.trans (HNEW.out g' hg'), by omega, r2⟩
    · obtain rfl : k = l.length := by omega
      rw [List.take_of_length_le (Nat.le_refl _)] at hown hkids
      have hlt := hown.lt
      have res := kids_own (P := fun g => w.heap.size ≤ g) hown hul (fun j e u q1 q2 => (hkids j e u q1 q2).mono (fun g hg _ => hg.1)) (fun g hg => hg)
      have HR := Lib.hid res
      clear hown hkids res
      go_wp2_with fail
      go_ret
      exact ⟨⟨_, rfl, HR.out⟩, hbe⟩
end Go.Proofs.YtaojidcneocelaaGreatDoor
