/- BerB, BerC. -/
import Derived.Deep.AppendLies
import Derived.Test.YthjaiigijbjloaaGreatDoorQ1
namespace Go.Proofs.YthjaiigijbjloaaGreatDoor
open Go.RowKit Go.Lib
theorem Tryz.infoElement : (Tryz.prog.info? 45).map (fun i => (i.zero, i.size, i.bytes)) = some (some (.agg Ze), 5, 64) := by kernel_rfl
def flatE : List El → List Value → List Value
 | [], _ => []
 | _ :: _, [] => []
 | e :: es, u :: us => .int .i64 e.cls :: .int .i64 e.tag :: .bool e.cons :: .string ⟨e.bytes.toArray⟩ :: u :: flatE es us
theorem flatE_length : ∀ (es : List El) (us : List Value), us.length = es.length → (flatE es us).length = es.length * 5
 | [], _, _ => rfl
 | _ :: _, [], h => by simp at h
 | e :: es, u :: us, h => by
  have := flatE_length es us (by simpa using h)
  simp only [flatE, List.length_cons, this]
  omega
theorem flatE_snoc : ∀ (es : List El) (us : List Value) (e : El) (u : Value), us.length = es.length → flatE (es ++ [e]) (us ++ [u]) = flatE es us ++ [.int .i64 e.cls, .int .i64 e.tag, .bool e.cons, .string ⟨e.bytes.toArray⟩, u]
 | [], [], _, _, _ => rfl
 | [], _ :: _, _, _, h => by simp at h
 | _ :: _, [], _, _, h => by simp at h
 | x :: es, v :: us, e, u, h => by
  have := flatE_snoc es us e u (by simpa using h)
  simp only [List.cons_append, flatE, this]
theorem flatE_get : ∀ (es : List El) (us : List Value) (j : Nat) (e : El) (u : Value), es[j]? = some e → us[j]? = some u →
  (flatE es us)[j * 5]? = some (.int .i64 e.cls) ∧ (flatE es us)[j * 5 + 1]? = some (.int .i64 e.tag) ∧ (flatE es us)[j * 5 + 2]? = some (.bool e.cons) ∧ (flatE es us)[j * 5 + 3]? = some (.string ⟨e.bytes.toArray⟩) ∧ (flatE es us)[j * 5 + 4]? = some u
 | [], _, _, _, _, h, _ => by simp at h
 | _ :: _, [], _, _, _, _, h => by simp at h
 | x :: es, v :: us, 0, e, u, h1, h2 => by
  simp at h1 h2; subst h1 h2
  exact ⟨rfl, rfl, rfl, rfl, rfl⟩
 | x :: es, v :: us, j + 1, e, u, h1, h2 => by
  have := flatE_get es us j e u (by simpa using h1) (by simpa using h2)
  rw [show (j + 1) * 5 = j * 5 + 5 by omega]
  exact this
theorem ElsC.of {P : Nat → Prop} {w : World} : ∀ (l : List El) (g o : Nat), (∀ (j : Nat) (e : El), l[j]? = some e → ElC P w e g (o + j * 5)) → ElsC P w l g o
 | [], _, _, _ => by simp only [ElsC]
 | x :: r, g, o, h => by
  simp only [ElsC]
  refine ⟨by simpa using h 0 x rfl, ElsC.of r g (o + 5) fun j e hj => ?_⟩
  have := h (j + 1) e (by simpa using hj)
  rw [show o + (j + 1) * 5 = o + 5 + j * 5 by omega] at this
  exact this
theorem kids_own {P : Nat → Prop} {N : Nat} {w : World} {v : Value} {l : List El} {us : List Value} (h : w.ownsRow N 45 5 v l.length (flatE l us)) (hl : us.length = l.length)
  (hk : ∀ (j : Nat) (e : El) (u : Value), l[j]? = some e → us[j]? = some u → KidsAt P w u e.kids) (hP : ∀ g, N ≤ g → P g) : KidsAt P w v l := by
 rcases id h.2 with ⟨rfl, h0⟩ | ⟨g, cap, cur, rfl, hb, hg, hc, _⟩
 ·have : l = [] := List.length_eq_zero_iff.1 h0
  subst this
  exact KidsAt.nil _ _
 ·refine ⟨some ⟨g, 0, none⟩, cap, rfl, hc, fun _ => ⟨g, 0, rfl, hP g hb, ElsC.of l g 0 fun j e hj => ?_⟩⟩
  obtain ⟨u, hu⟩ : ∃ u, us[j]? = some u := ⟨us[j]'(by rw [hl]; exact (List.getElem?_eq_some_iff.1 hj).1), List.getElem?_eq_getElem _⟩
  obtain ⟨q0, q1, q2, q3, q4⟩ := flatE_get l us j e u hj hu
  rw [Nat.zero_add]
  exact ElC.mk (own_cell h q0).1 (own_cell h q1).1 (own_cell h q2).1 (own_cell h q3).1 (own_cell h q4).1 (hk j e u hj hu)
-- COPIES
def CpRel (w : World) (l : List El) (v i : Value) (wr : World) : Prop :=
 ∃ (k : Nat) (us : List Value), i = .int .i64 (k : Int) ∧ k ≤ l.length ∧ wr.ownsRow w.heap.size 45 5 v k (flatE (l.take k) us) ∧ us.length = k ∧ Below w.heap.size w wr ∧
  ∀ (j : Nat) (e : El) (u : Value), (l.take k)[j]? = some e → us[j]? = some u → KidsAt (fun g => w.heap.size ≤ g ∧ v.ownBlock ≠ some g) wr u e.kids
theorem SmE_parts {e : El} (h : SmE e) : e.bytes.length ≤ 1000000000 ∧ e.kids.length ≤ 1000000000 ∧ SmL e.kids := by
 cases e
 simpa only [SmE, El.bytes, El.kids] using h
theorem depE_kids (e : El) : depE e = depL e.kids + 1 := by
 cases e
 simp only [depE, El.kids]
set_option maxRecDepth 100000 in
set_option maxHeartbeats 4000000 in
theorem copies_any (n : Nat) : ∀ (l : List El), depL l ≤ n → SmL l → l.length ≤ 1000000000 → ∀ (v : Value) (w : World), KidsAt (fun _ => True) w v l →
  Calls Tryz.prog 129 #[v] w fun e w' => (∃ v', e = .returned v' ∧ KidsAt (fun g => w.heap.size ≤ g) w' v' l) ∧ Below w.heap.size w w' := by
 induction n using Nat.strongRecOn with
 | ind n ih =>
 intro l hd hs hll v w h
 obtain ⟨i0, hi0, hz0, hz1, hz2⟩ := info_parts Tryz.infoElement
 have H := hid h
 have HD := hid hd
 have HS := hid hs
 have IH := hid ih
 clear hd hs ih
 obtain ⟨a, cap, rfl, hc, hk0⟩ := h
 clear hk0
 go_enter Tryz.func129, Tryz.ntmps129
 go_wp2_with fail
 go_loopw [3, 8] (fun v i wr => CpRel w l v i wr) (fun _ i _ => l.length - (RowKit.intOf i).toNat)
 case atStart => exact ⟨0, [], rfl, Nat.zero_le _, World.ownsRow_nil _ _ _ _, rfl, Below.refl _ _, fun j e u h => by simp at h⟩
 case round =>
  obtain ⟨k, us, rfl, hk, hown, hul, hbe, hkids⟩ := hrel
  obtain ⟨av, cv, hfv⟩ := own_shape hown
  subst hfv
  by_cases hkl : k < l.length
  ·obtain ⟨e, he⟩ : ∃ e, l[k]? = some e := ⟨l[k], List.getElem?_eq_getElem hkl⟩
   obtain ⟨a', cap', e', _, hsrc⟩ := H.out.below hbe
   cases e'
   obtain ⟨g, o, ha, _, hcells⟩ := hsrc (by intro h0; rw [h0] at hkl; simp at hkl)
   subst ha
   obtain ⟨p0, p1, p2, p3, u, p4, hu⟩ := (ElsC.get l g o k e hcells he).cells
   obtain ⟨au, cu, hfu⟩ := hu.shape
   subst hfu
   obtain ⟨sb, sk, sl⟩ := SmE_parts (SmL_get l k e HS.out he)
   have hdep : depL e.kids < n := by have h1 := depL_get l k e he; have h2 := depE_kids e; have := HD.out; omega
   have i1 : (k : Int) < (l.length : Int) := by omega
   have i3 : decide ((k : Int) < (l.length : Int)) = true := decide_eq_true i1
   have hlt := hown.lt
   have HE := hid he
   have HK := hid hkids
   have HO := hid hown
   have hszr := hbe.size
   clear hsrc hcells he hkids hown
   go_wp2_with fail
   have n1 : Below wr.heap.size wr (wr.alloc (.cells #[.int .i64 e.cls, .int .i64 e.tag, .bool e.cons, .string ⟨e.bytes.toArray⟩, .slice au e.kids.length cu] 45)) := (Below.refl _ _).alloc (Nat.le_refl _) _
   have n2 : (wr.alloc (.cells #[.int .i64 e.cls, .int .i64 e.tag, .bool e.cons, .string ⟨e.bytes.toArray⟩, .slice au e.kids.length cu] 45)).heap[wr.heap.size]? = some (.cells (elA e (.slice au e.kids.length cu)) 45 (0, 0)) := alloc_at _ _ _ rfl
   generalize wr.alloc (.cells #[.int .i64 e.cls, .int .i64 e.tag, .bool e.cons, .string ⟨e.bytes.toArray⟩, .slice au e.kids.length cu] 45) = w1 at n1 n2 ⊢
   have q4 : w1.cell? ⟨wr.heap.size, 4, none⟩ = some (.slice au e.kids.length cu) := (cell_of_heap n2 4).trans rfl
   have kc := IH.out (depL e.kids) hdep e.kids (Nat.le_refl _) sl sk _ w1 (hu.below n1)
   refine Calls.mono kc ?_
   rintro e2 w2 ⟨⟨u2, rfl, hu2⟩, hb2⟩
   obtain ⟨a2, c2, hf2⟩ := hu2.shape
   subst hf2
   have hB1 := (gl n2)
   have n3 := (hb2.block _ hB1).trans n2
   have q5 := (hb2.cell (lt_of_cell q4)).trans q4
   have z5 := Lib.frozen_of_heap n3 4
   have n4 : (w2.setCell ⟨wr.heap.size, 4, none⟩ (.slice a2 e.kids.length c2)).heap[wr.heap.size]? = some (.cells #[.int .i64 e.cls, .int .i64 e.tag, .bool e.cons, .string ⟨e.bytes.toArray⟩, .slice a2 e.kids.length c2] 45 (0, 0)) := setCell_at (i := 4) (u := .slice a2 e.kids.length c2) n3
   have hown3 : (w2.setCell ⟨wr.heap.size, 4, none⟩ (.slice a2 e.kids.length c2)).ownsRow w.heap.size 45 5 (.slice av k cv) k (flatE (l.take k) us) :=
    (own_below (own_below HO.out n1) hb2).kept (grown_set w2 wr.heap.size 4 _) (.inr (fun h => by have := (hlt _ h).2; omega))
   have hs1 := n1.size
   have hs2 := hb2.size
   have hs3 : (w2.setCell ⟨wr.heap.size, 4, none⟩ (.slice a2 e.kids.length c2)).heap.size = w2.heap.size := by simp [World.setCell]
   have hB3 : Below w.heap.size w (w2.setCell ⟨wr.heap.size, 4, none⟩ (.slice a2 e.kids.length c2)) := ((hbe.trans (n1.mono hszr)).trans (hb2.mono (by omega))).setCell (p := ⟨wr.heap.size, 4, none⟩) hszr _
   have hold : ∀ g, g < wr.heap.size → (w2.setCell ⟨wr.heap.size, 4, none⟩ (.slice a2 e.kids.length c2)).heap[g]? = wr.heap[g]? := fun g hg => (Below.heap_setCell w2 ⟨wr.heap.size, 4, none⟩ _ g (by show g ≠ wr.heap.size; omega)).trans ((hb2.block g (by omega)).trans (n1.block g hg))
   have hnew : ∀ g, w1.heap.size ≤ g → (w2.setCell ⟨wr.heap.size, 4, none⟩ (.slice a2 e.kids.length c2)).heap[g]? = w2.heap[g]? := fun g hg => Below.heap_setCell w2 ⟨wr.heap.size, 4, none⟩ _ g (by show g ≠ wr.heap.size; omega)
   have HOLD := hid hold
   have HNEW := hid hnew
   have HLT := hid hlt
   clear q4 n2 n3 kc hu hold hnew hlt p0 p1 p2 p3 p4
   have hs3' := Nat.le_of_eq hs3.symm
   clear hs3
   go_wp2_with (first
    | (generalize (w2.setCell ⟨wr.heap.size, 4, none⟩ (.slice a2 e.kids.length c2)) = w3 at n4 hown3 hs3' hB3 HOLD HNEW ⊢; refine wpList_loadRow rfl 45 (.tmp 5) rfl wr.heap.size 45 _ (0, 0) (by rfl) n4 _ Tryz.underlying45 rfl (by rfl) ?_)
    | (at_builtin; refine wpList_append_lies _ rfl (.tmp 16) (.tmp 18) 43 rfl w.heap.size 45 i0 _ 5 64 Tryz.underlying43 hi0 hz0 hz1 hz2 rfl (by decide) (.slice av k cv) k (flatE (l.take k) us) rfl (hown3.alloc _) ⟨w3.heap.size, 0, none⟩ 1 1 [.int .i64 e.cls, .int .i64 e.tag, .bool e.cons, .string ⟨e.bytes.toArray⟩, .slice a2 e.kids.length c2] rfl rfl (World.news_of_block (alloc_at _ _ _ rfl)) (by simp [Value.oneCell']) (by decide) (by unfold maxLen; omega) (by omega) (by simp; omega) (w3.heap.size + 1) (by simp) ?_; intro g5 cap5 w5 ho5 hg5 hat5 hlt5))
   have hts : l.take (k + 1) = l.take k ++ [e] := by rw [List.take_add_one, HE.out]; rfl
   have hlk : us.length = (l.take k).length := by rw [hul, List.length_take]; omega
   refine ⟨⟨k + 1, us ++ [.slice a2 e.kids.length c2], by go_num, by omega, by rw [hts, flatE_snoc _ _ _ _ hlk]; exact ho5, by simp [hul], (hB3.alloc (by omega) _).grown hg5 (by simp; omega) (fun b hb => (HLT.out b hb).1), fun j e' u' q1 q2 => ?_⟩, by simp [RowKit.intOf]; omega⟩
   have hown5 : ∀ g', g' < w3.heap.size → (.slice av k cv : Value).ownBlock ≠ some g' → w5.heap[g']? = w3.heap[g']? ∧ (.slice (some ⟨g5, 0, none⟩) (k + 1) cap5 : Value).ownBlock ≠ some g' := by
    intro g' hg' hne
    refine ⟨(hg5.block g' (by simp; omega) (fun h => hne h.symm)).trans (alloc_old _ _ _ hg'), fun h => ?_⟩
    rcases hat5 with h5 | h5
    ·have : g5 = g' := by simpa [Value.ownBlock] using h
     subst this
     exact hne h5
    ·have : g5 = g' := by simpa [Value.ownBlock] using h
     omega
   rw [hts] at q1
   by_cases hjk : j < k
   ·rw [List.getElem?_append_left (by rw [← hlk, hul]; exact hjk)] at q1
    rw [List.getElem?_append_left (by rw [hul]; exact hjk)] at q2
    refine (HK.out j e' u' q1 q2).kept fun g' hg' hlt' => ?_
    obtain ⟨r1, r2⟩ := hown5 g' (by omega) hg'.2
    exact ⟨r1.trans (HOLD.out g' hlt'), hg'.1, r2⟩
   ·have hj : j = k := by
     have := (List.getElem?_eq_some_iff.1 q2).1
     simp [hul] at this
     omega
    subst hj
    rw [List.getElem?_append_right (by rw [← hlk, hul]; exact Nat.le_refl _), ← hlk, hul, Nat.sub_self] at q1
    rw [List.getElem?_append_right (by rw [hul]; exact Nat.le_refl _), hul, Nat.sub_self] at q2
    cases q1
    cases q2
    refine hu2.kept fun g' hg' hlt' => ?_
    obtain ⟨r1, r2⟩ := hown5 g' (by omega) (fun h => by have := (HLT.out g' h).2; omega)
    exact ⟨r1.trans (HNEW.out g' hg'), by omega, r2⟩
  ·obtain rfl : k = l.length := by omega
   rw [List.take_of_length_le (Nat.le_refl _)] at hown hkids
   have hlt := hown.lt
   have res := kids_own (P := fun g => w.heap.size ≤ g) hown hul (fun j e u q1 q2 => (hkids j e u q1 q2).mono (fun g hg _ => hg.1)) (fun g hg => hg)
   have HR := hid res
   clear hown hkids res
   go_wp2_with fail
   go_ret
   exact ⟨⟨_, rfl, HR.out⟩, hbe⟩
set_option maxRecDepth 100000 in
set_option maxHeartbeats 2000000 in
theorem Str_any (t : Int) (s : List UInt8) (w : World) :
  Calls Tryz.prog 112 #[.int .i64 t, .string ⟨s.toArray⟩] w fun e w' => e = .returned (.agg (elA (.mk 0 t false s []) (.slice none 0 0))) ∧ Below w.heap.size w w' := by
 have hb : Below w.heap.size w (w.alloc (.cells #[.int .i64 0, .int .i64 t, .bool false, .string ⟨s.toArray⟩, .slice none 0 0] 45)) := (Below.refl _ _).alloc (Nat.le_refl _) _
 have hr : (w.alloc (.cells #[.int .i64 0, .int .i64 t, .bool false, .string ⟨s.toArray⟩, .slice none 0 0] 45)).heap[w.heap.size]? = some (.cells #[.int .i64 0, .int .i64 t, .bool false, .string ⟨s.toArray⟩, .slice none 0 0] 45 (0, 0)) := alloc_at _ _ _ rfl
 go_enter Tryz.func112, Tryz.ntmps112
 go_wp2_with fail
 all_goals refine bodyPost_ret (v := .agg #[.int .i64 0, .int .i64 t, .bool false, .string ⟨s.toArray⟩, .slice none 0 0]) ?_ rfl ⟨rfl, hb⟩
 all_goals have hr := run_loadVar_row (P := Tryz.prog) (w.alloc (.cells #[.int .i64 0, .int .i64 t, .bool false, .string ⟨s.toArray⟩, .slice none 0 0] 45)) (w.heap.size) 45 45 #[.int .i64 0, .int .i64 t, .bool false, .string ⟨s.toArray⟩, .slice none 0 0] (0, 0) _ hr (show Tryz.prog.underlying 45 = _ from Tryz.underlying45) (by rfl) (by rfl)
 all_goals simp [results, Tryz.f112]
 all_goals exact hr
set_option maxRecDepth 100000 in
set_option maxHeartbeats 2000000 in
theorem mstr_any (s : List UInt8) (w : World) :
  Calls Tryz.prog 74 #[.string ⟨s.toArray⟩] w fun e w' => e = .returned (.agg (elA (.mk 0 4 false s []) (.slice none 0 0))) ∧ Below w.heap.size w w' := by
 have hb : Below w.heap.size w (w.alloc (.cells Ze 45)) := (Below.refl _ _).alloc (Nat.le_refl _) _
 have hr : (w.alloc (.cells Ze 45)).heap[w.heap.size]? = some (.cells Ze 45 (0, 0)) := alloc_at _ _ _ rfl
 have k := Str_any 4 s (w.alloc (.cells Ze 45))
 go_enter Tryz.func74, Tryz.ntmps74
 go_wp2_with fail
 refine Calls.mono k ?_
 rintro e w2 ⟨rfl, hb2⟩
 have hr2 := (hb2.block _ (gl hr)).trans hr
 have hb3 := hb.trans (hb2.mono hb.size)
 clear hr hb2 hb k
 unfold elA
 simp only [El.cls, El.tag, El.cons, El.bytes]
 have hq := setRow_heap w2 w.heap.size _ #[.int .i64 0, .int .i64 4, .bool false, .string ⟨s.toArray⟩, .slice none 0 0] _ _ hr2
 have hb4 := below_row hb3 (g := w.heap.size) (Nat.le_refl _) #[.int .i64 0, .int .i64 4, .bool false, .string ⟨s.toArray⟩, .slice none 0 0]
 go_wp2_with (refine wpList_storeRow rfl 45 (.tmp 2) (.tmp 4) rfl w.heap.size 45 _ #[.int .i64 0, .int .i64 4, .bool false, .string ⟨s.toArray⟩, .slice none 0 0] (by rfl) (by rfl) hr2 (by rfl) (by rfl) (by simp [Value.oneCell']) ?_)
 all_goals refine bodyPost_ret (v := .agg #[.int .i64 0, .int .i64 4, .bool false, .string ⟨s.toArray⟩, .slice none 0 0]) ?_ rfl ⟨rfl, hb4⟩
 all_goals have hr := run_loadVar_row (P := Tryz.prog) (w2.setRow w.heap.size #[.int .i64 0, .int .i64 4, .bool false, .string ⟨s.toArray⟩, .slice none 0 0]) (w.heap.size) 45 45 #[.int .i64 0, .int .i64 4, .bool false, .string ⟨s.toArray⟩, .slice none 0 0] (0, 0) _ hq (show Tryz.prog.underlying 45 = _ from Tryz.underlying45) (by rfl) (by rfl)
 all_goals simp [results, Tryz.f74]
 all_goals exact hr
set_option maxRecDepth 100000 in
set_option maxHeartbeats 2000000 in
theorem Seq_any (l : List El) (v : Value) (w : World) (h : KidsAt (fun _ => True) w v l) (hs : SmL l) (hl : l.length ≤ 1000000000) :
  Calls Tryz.prog 76 #[v] w fun e w' => (∃ u, e = .returned (.agg (elA (.mk 0 16 true [] l) u)) ∧ KidsAt (fun g => w.heap.size ≤ g) w' u l) ∧ Below w.heap.size w w' := by
 obtain ⟨av, cv, hfv⟩ := h.shape
 subst hfv
 have hb : Below w.heap.size w (w.alloc (.cells Ze 45)) := (Below.refl _ _).alloc (Nat.le_refl _) _
 have hr : (w.alloc (.cells Ze 45)).heap[w.heap.size]? = some (.cells Ze 45 (0, 0)) := alloc_at _ _ _ rfl
 have k := copies_any (depL l) l (Nat.le_refl _) hs hl _ _ (h.below hb)
 clear h hs
 go_enter Tryz.func76, Tryz.ntmps76
 go_wp2_with fail
 refine Calls.mono k ?_
 rintro e w2 ⟨⟨u2, rfl, hu2⟩, hb2⟩
 obtain ⟨a2, c2, hf2⟩ := hu2.shape
 subst hf2
 have hlt := (gl hr)
 have hr2 := (hb2.block _ hlt).trans hr
 have hb3 := hb.trans (hb2.mono hb.size)
 have HU : KidsAt (fun g => w.heap.size ≤ g) (w2.setRow w.heap.size #[.int .i64 0, .int .i64 16, .bool true, .string ⟨#[]⟩, .slice a2 l.length c2]) (.slice a2 l.length c2) l := hu2.kept fun g hg _ => ⟨setRow_other _ _ _ _ (by omega), by omega⟩
 have hq := setRow_heap w2 w.heap.size _ #[.int .i64 0, .int .i64 16, .bool true, .string ⟨#[]⟩, .slice a2 l.length c2] _ _ hr2
 have hb4 := below_row hb3 (g := w.heap.size) (Nat.le_refl _) #[.int .i64 0, .int .i64 16, .bool true, .string ⟨#[]⟩, .slice a2 l.length c2]
 have HH := hid HU
 clear hr hb2 hb k hu2 HU
 go_wp2_with (refine wpList_storeRow rfl 45 (.tmp 2) (.tmp 5) rfl w.heap.size 45 _ #[.int .i64 0, .int .i64 16, .bool true, .string ⟨#[]⟩, .slice a2 l.length c2] (by rfl) (by rfl) hr2 (by rfl) (by rfl) (by simp [Value.oneCell']) ?_)
 all_goals refine bodyPost_ret (v := .agg #[.int .i64 0, .int .i64 16, .bool true, .string ⟨#[]⟩, .slice a2 l.length c2]) ?_ rfl ⟨⟨_, rfl, HH.out⟩, hb4⟩
 all_goals have hr := run_loadVar_row (P := Tryz.prog) (w2.setRow w.heap.size #[.int .i64 0, .int .i64 16, .bool true, .string ⟨#[]⟩, .slice a2 l.length c2]) (w.heap.size) 45 45 #[.int .i64 0, .int .i64 16, .bool true, .string ⟨#[]⟩, .slice a2 l.length c2] (0, 0) _ hq (show Tryz.prog.underlying 45 = _ from Tryz.underlying45) (by rfl) (by rfl)
 all_goals simp [results, Tryz.f76]
 all_goals exact hr
set_option maxRecDepth 100000 in
set_option maxHeartbeats 2000000 in
theorem As_any (el : El) (u : Value) (c t : Int) (w : World) (h : KidsAt (fun _ => True) w u el.kids) (hs : SmE el) :
  Calls Tryz.prog 128 #[.agg (elA el u), .int .i64 c, .int .i64 t] w fun e w' => (∃ u', e = .returned (.agg (elA (.mk c t el.cons el.bytes el.kids) u')) ∧ KidsAt (fun g => w.heap.size ≤ g) w' u' el.kids) ∧ Below w.heap.size w w' := by
 obtain ⟨_, hl, hsl⟩ := SmE_parts hs
 obtain ⟨av, cv, hfv⟩ := h.shape
 subst hfv
 have hb : Below w.heap.size w ((w.alloc (.cells #[.int .i64 el.cls, .int .i64 el.tag, .bool el.cons, .string ⟨el.bytes.toArray⟩, .slice av el.kids.length cv] 45)).alloc (.cells Ze 45)) := ((Below.refl _ _).alloc (Nat.le_refl _) _).alloc (by simp) _
 have hr : ((w.alloc (.cells #[.int .i64 el.cls, .int .i64 el.tag, .bool el.cons, .string ⟨el.bytes.toArray⟩, .slice av el.kids.length cv] 45)).alloc (.cells Ze 45)).heap[w.heap.size]? = some (.cells #[.int .i64 el.cls, .int .i64 el.tag, .bool el.cons, .string ⟨el.bytes.toArray⟩, .slice av el.kids.length cv] 45 (0, 0)) := (alloc_old _ _ _ (by simp)).trans (alloc_at _ _ _ rfl)
 have hz : ((w.alloc (.cells #[.int .i64 el.cls, .int .i64 el.tag, .bool el.cons, .string ⟨el.bytes.toArray⟩, .slice av el.kids.length cv] 45)).alloc (.cells Ze 45)).heap[w.heap.size + 1]? = some (.cells Ze 45 (0, 0)) := alloc_at _ _ _ (by simp)
 have k := copies_any (depL el.kids) el.kids (Nat.le_refl _) hsl hl _ _ (h.below hb)
 clear h hs hsl
 unfold elA
 go_enter Tryz.func128, Tryz.ntmps128
 go_wp2_with fail
 refine Calls.mono k ?_
 rintro e w2 ⟨⟨u2, rfl, hu2⟩, hb2⟩
 obtain ⟨a2, c2, hf2⟩ := hu2.shape
 subst hf2
 have hlt := (gl hz)
 have hr2 := (hb2.block _ (gl hr)).trans hr
 have hz2 := (hb2.block _ hlt).trans hz
 have hb3 := hb.trans (hb2.mono hb.size)
 have q0 : w2.cell? ⟨w.heap.size, 0, none⟩ = some (.int .i64 el.cls) := (cell_of_heap hr2 0).trans rfl
 have q1 : w2.cell? ⟨w.heap.size, 1, none⟩ = some (.int .i64 el.tag) := (cell_of_heap hr2 1).trans rfl
 have q4 : w2.cell? ⟨w.heap.size, 4, none⟩ = some (.slice av el.kids.length cv) := (cell_of_heap hr2 4).trans rfl
 have z0 := Lib.frozen_of_heap hr2 0
 have z1 := Lib.frozen_of_heap hr2 1
 have z4 := Lib.frozen_of_heap hr2 4
 have n1 : (w2.setCell ⟨w.heap.size, 0, none⟩ (.int .i64 c)).heap[w.heap.size]? = _ := setCell_at (i := 0) (u := .int .i64 c) hr2
 have n2 : ((w2.setCell ⟨w.heap.size, 0, none⟩ (.int .i64 c)).setCell ⟨w.heap.size, 1, none⟩ (.int .i64 t)).heap[w.heap.size]? = _ := setCell_at (i := 1) (u := .int .i64 t) n1
 have n3 : (((w2.setCell ⟨w.heap.size, 0, none⟩ (.int .i64 c)).setCell ⟨w.heap.size, 1, none⟩ (.int .i64 t)).setCell ⟨w.heap.size, 4, none⟩ (.slice a2 el.kids.length c2)).heap[w.heap.size]? = some (.cells #[.int .i64 c, .int .i64 t, .bool el.cons, .string ⟨el.bytes.toArray⟩, .slice a2 el.kids.length c2] 45 (0, 0)) := setCell_at (i := 4) (u := .slice a2 el.kids.length c2) n2
 have hoth : ∀ g, g ≠ w.heap.size → (((w2.setCell ⟨w.heap.size, 0, none⟩ (.int .i64 c)).setCell ⟨w.heap.size, 1, none⟩ (.int .i64 t)).setCell ⟨w.heap.size, 4, none⟩ (.slice a2 el.kids.length c2)).heap[g]? = w2.heap[g]? := fun g hg => (Below.heap_setCell _ ⟨w.heap.size, 4, none⟩ _ g hg).trans ((Below.heap_setCell _ ⟨w.heap.size, 1, none⟩ _ g hg).trans (Below.heap_setCell _ ⟨w.heap.size, 0, none⟩ _ g hg))
 have m3 := (hoth (w.heap.size + 1) (by omega)).trans hz2
 have b3 : Below w.heap.size w (((w2.setCell ⟨w.heap.size, 0, none⟩ (.int .i64 c)).setCell ⟨w.heap.size, 1, none⟩ (.int .i64 t)).setCell ⟨w.heap.size, 4, none⟩ (.slice a2 el.kids.length c2)) := ((hb3.setCell (p := ⟨w.heap.size, 0, none⟩) (Nat.le_refl _) _).setCell (p := ⟨w.heap.size, 1, none⟩) (Nat.le_refl _) _).setCell (p := ⟨w.heap.size, 4, none⟩) (Nat.le_refl _) _
 have K3 : KidsAt (fun g => w.heap.size + 1 < g) (((w2.setCell ⟨w.heap.size, 0, none⟩ (.int .i64 c)).setCell ⟨w.heap.size, 1, none⟩ (.int .i64 t)).setCell ⟨w.heap.size, 4, none⟩ (.slice a2 el.kids.length c2)) (.slice a2 el.kids.length c2) el.kids := hu2.kept fun g hg _ => ⟨hoth g (by omega), by omega⟩
 have HK := hid K3
 have HN := hid n3
 have HM := hid m3
 have HB := hid b3
 clear n1 n2 n3 hoth m3 b3 K3 hu2 hb2 hr hz hb k hb3 hz2 hr2
 go_wp2_with (first
  | (generalize ((w2.setCell ⟨w.heap.size, 0, none⟩ (.int .i64 c)).setCell ⟨w.heap.size, 1, none⟩ (.int .i64 t)).setCell ⟨w.heap.size, 4, none⟩ (.slice a2 el.kids.length c2) = w3 at HN HM HB HK ⊢; refine wpList_loadRow rfl 45 (.tmp 3) rfl w.heap.size 45 _ (0, 0) (by rfl) HN.out _ Tryz.underlying45 rfl (by rfl) ?_)
  | (refine wpList_storeRow rfl 45 (.tmp 6) (.tmp 15) rfl (w.heap.size + 1) 45 _ #[.int .i64 c, .int .i64 t, .bool el.cons, .string ⟨el.bytes.toArray⟩, .slice a2 el.kids.length c2] (by rfl) (by rfl) HM.out (by rfl) (by rfl) (by simp [Value.oneCell']) ?_))
 have hq := setRow_heap w3 (w.heap.size + 1) _ #[.int .i64 c, .int .i64 t, .bool el.cons, .string ⟨el.bytes.toArray⟩, .slice a2 el.kids.length c2] _ _ HM.out
 have hb4 := below_row HB.out (g := w.heap.size + 1) (by omega) #[.int .i64 c, .int .i64 t, .bool el.cons, .string ⟨el.bytes.toArray⟩, .slice a2 el.kids.length c2]
 have HH : KidsAt (fun g => w.heap.size ≤ g) (w3.setRow (w.heap.size + 1) #[.int .i64 c, .int .i64 t, .bool el.cons, .string ⟨el.bytes.toArray⟩, .slice a2 el.kids.length c2]) (.slice a2 el.kids.length c2) el.kids := HK.out.kept fun g hg _ => ⟨setRow_other _ _ _ _ (by omega), by omega⟩
 all_goals refine bodyPost_ret (v := .agg #[.int .i64 c, .int .i64 t, .bool el.cons, .string ⟨el.bytes.toArray⟩, .slice a2 el.kids.length c2]) ?_ rfl ⟨⟨_, rfl, HH⟩, hb4⟩
 all_goals have hr := run_loadVar_row (P := Tryz.prog) (w3.setRow (w.heap.size + 1) #[.int .i64 c, .int .i64 t, .bool el.cons, .string ⟨el.bytes.toArray⟩, .slice a2 el.kids.length c2]) (w.heap.size + 1) 45 45 #[.int .i64 c, .int .i64 t, .bool el.cons, .string ⟨el.bytes.toArray⟩, .slice a2 el.kids.length c2] (0, 0) _ hq (show Tryz.prog.underlying 45 = _ from Tryz.underlying45) (by rfl) (by rfl)
 all_goals simp [results, Tryz.f128]
 all_goals exact hr
set_option maxRecDepth 100000 in
set_option maxHeartbeats 2000000 in
theorem ctx_any (el : El) (u : Value) (t : Int) (w : World) (h : KidsAt (fun _ => True) w u el.kids) (hs : SmE el) :
  Calls Tryz.prog 77 #[.int .i64 t, .agg (elA el u)] w fun e w' => (∃ u', e = .returned (.agg (elA (.mk 2 t el.cons el.bytes el.kids) u')) ∧ KidsAt (fun g => w.heap.size ≤ g) w' u' el.kids) ∧ Below w.heap.size w w' := by
 have hb : Below w.heap.size w ((w.alloc (.cells (elA el u) 45)).alloc (.cells Ze 45)) := ((Below.refl _ _).alloc (Nat.le_refl _) _).alloc (by simp) _
 have hr : ((w.alloc (.cells (elA el u) 45)).alloc (.cells Ze 45)).heap[w.heap.size]? = some (.cells (elA el u) 45 (0, 0)) := (alloc_old _ _ _ (by simp)).trans (alloc_at _ _ _ rfl)
 have hz : ((w.alloc (.cells (elA el u) 45)).alloc (.cells Ze 45)).heap[w.heap.size + 1]? = some (.cells Ze 45 (0, 0)) := alloc_at _ _ _ (by simp)
 have k := As_any el u 2 t _ (h.below hb) hs
 clear h hs
 go_enter Tryz.func77, Tryz.ntmps77
 go_wp2_with (refine wpList_loadRow rfl 45 (.tmp 3) rfl w.heap.size 45 _ (0, 0) (by rfl) hr _ Tryz.underlying45 rfl (by rfl) ?_)
 refine Calls.mono k ?_
 rintro e w2 ⟨⟨u2, rfl, hu2⟩, hb2⟩
 obtain ⟨a2, c2, hf2⟩ := hu2.shape
 subst hf2
 have hz2 := (hb2.block _ (gl hz)).trans hz
 have hb3 := hb.trans (hb2.mono hb.size)
 have hq := setRow_heap w2 (w.heap.size + 1) _ (elA (.mk 2 t el.cons el.bytes el.kids) (.slice a2 el.kids.length c2)) _ _ hz2
 have hb4 := below_row hb3 (g := w.heap.size + 1) (by omega) (elA (.mk 2 t el.cons el.bytes el.kids) (.slice a2 el.kids.length c2))
 have hlt := (gl hz)
 have HH : KidsAt (fun g => w.heap.size ≤ g) (w2.setRow (w.heap.size + 1) (elA (.mk 2 t el.cons el.bytes el.kids) (.slice a2 el.kids.length c2))) (.slice a2 el.kids.length c2) el.kids := hu2.kept fun g hg _ => ⟨setRow_other _ _ _ _ (by omega), by omega⟩
 have HI := hid HH
 clear hb k hu2 hb2 hr hz hb3 HH
 go_wp2_with (refine wpList_storeRow rfl 45 (.tmp 4) (.tmp 7) rfl (w.heap.size + 1) 45 _ (elA (.mk 2 t el.cons el.bytes el.kids) (.slice a2 el.kids.length c2)) (by rfl) (by rfl) hz2 (by rfl) (by rfl) (by simp [elA, Value.oneCell']) ?_)
 all_goals refine bodyPost_ret (v := .agg (elA (.mk 2 t el.cons el.bytes el.kids) (.slice a2 el.kids.length c2))) ?_ rfl ⟨⟨_, rfl, HI.out⟩, hb4⟩
 all_goals have hr := run_loadVar_row (P := Tryz.prog) (w2.setRow (w.heap.size + 1) (elA (.mk 2 t el.cons el.bytes el.kids) (.slice a2 el.kids.length c2))) (w.heap.size + 1) 45 45 (elA (.mk 2 t el.cons el.bytes el.kids) (.slice a2 el.kids.length c2)) (0, 0) _ hq (show Tryz.prog.underlying 45 = _ from Tryz.underlying45) (by rfl) (by rfl)
 all_goals simp [results, Tryz.f77]
 all_goals exact hr
end Go.Proofs.YthjaiigijbjloaaGreatDoor
