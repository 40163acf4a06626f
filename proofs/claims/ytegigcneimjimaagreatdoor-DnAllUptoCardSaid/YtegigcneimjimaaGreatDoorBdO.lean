/- chancerybook: Apart of a book of pairs and parts. (genbdo.py wrote it.) -/
import Derived.Test.YtegigcneimjimaaGreatDoorBdM
import Derived.Test.YtegigcneimjimaaGreatDoorBdN
namespace Go.Proofs.YtegigcneimjimaaGreatDoor
open Go.RowKit Go.Lib

structure BkN (w : World) (p : Nat) : Prop where
  n0 : w.cell? ⟨p, 0, none⟩ = some (.slice none 0 0)
  n2 : w.cell? ⟨p, 2, none⟩ = some (.slice none 0 0)
  n4 : w.cell? ⟨p, 4, none⟩ = some (.slice none 0 0)
  n6 : w.cell? ⟨p, 6, none⟩ = some (.slice none 0 0)
  n8 : w.cell? ⟨p, 8, none⟩ = some (.slice none 0 0)
  n10 : w.cell? ⟨p, 10, none⟩ = some (.slice none 0 0)
  n12 : w.cell? ⟨p, 12, none⟩ = some (.slice none 0 0)
  n14 : w.cell? ⟨p, 14, none⟩ = some (.slice none 0 0)
  n20 : w.cell? ⟨p, 20, none⟩ = some (.slice none 0 0)
  n22 : w.cell? ⟨p, 22, none⟩ = some (.slice none 0 0)
  n24 : w.cell? ⟨p, 24, none⟩ = some (.slice none 0 0)
  n26 : w.cell? ⟨p, 26, none⟩ = some (.slice none 0 0)
  n28 : w.cell? ⟨p, 28, none⟩ = some (.slice none 0 0)
  n30 : w.cell? ⟨p, 30, none⟩ = some (.slice none 0 0)
  n32 : w.cell? ⟨p, 32, none⟩ = some (.slice none 0 0)
  n34 : w.cell? ⟨p, 34, none⟩ = some (.slice none 0 0)
theorem BkAt.nils {w : World} {p : Nat} {a b c d : Value} (h : BkAt w p a b c d) : BkN w p :=
  ⟨by rw [Lib.cell_of_heap h]; rfl, by rw [Lib.cell_of_heap h]; rfl, by rw [Lib.cell_of_heap h]; rfl, by rw [Lib.cell_of_heap h]; rfl, by rw [Lib.cell_of_heap h]; rfl, by rw [Lib.cell_of_heap h]; rfl, by rw [Lib.cell_of_heap h]; rfl, by rw [Lib.cell_of_heap h]; rfl, by rw [Lib.cell_of_heap h]; rfl, by rw [Lib.cell_of_heap h]; rfl, by rw [Lib.cell_of_heap h]; rfl, by rw [Lib.cell_of_heap h]; rfl, by rw [Lib.cell_of_heap h]; rfl, by rw [Lib.cell_of_heap h]; rfl, by rw [Lib.cell_of_heap h]; rfl, by rw [Lib.cell_of_heap h]; rfl⟩
theorem list_of {α : Type} (P : Nat → α → Prop) : ∀ n, (∀ i, i < n → ∃ y, P i y) → ∃ l : List α, l.length = n ∧ ∀ i y, l[i]? = some y → P i y
  | 0, _ => ⟨[], rfl, fun i y h => by simp at h⟩
  | n + 1, h => by
    obtain ⟨l, hl, hp⟩ := list_of P n (fun i hi => h i (by omega))
    obtain ⟨y, hy⟩ := h n (Nat.lt_succ_self n)
    refine ⟨l ++ [y], by simp [hl], fun i z hz => ?_⟩
    rcases Nat.lt_or_ge i l.length with hi | hi
    · rw [List.getElem?_append_left hi] at hz; exact hp i z hz
    · have h1 := (List.getElem?_eq_some_iff.1 hz).1
      simp at h1
      obtain rfl : i = l.length := by omega
      rw [List.getElem?_append_right (Nat.le_refl _), Nat.sub_self] at hz
      cases hz
      rw [hl]
      exact hy
theorem blks_ty {w : World} {vs : List Value} {e : TypeId} {n : Nat} (hn : vs.length = n) {B : Nat} (h : ∀ i, i < n → ∃ v, vs[i]? = some v ∧ ∃ size m xs, w.ownsRow B e size v m xs) : ∀ k, Blks vs k → Ty w k e ∧ k < w.heap.size ∧ B ≤ k := by
  rintro k ⟨v, hm, hk⟩
  obtain ⟨i, hi⟩ := List.getElem?_of_mem hm
  obtain ⟨v', h1, size, m, xs, h2⟩ := h i (by have := (List.getElem?_eq_some_iff.1 hi).1; omega)
  rw [hi] at h1
  cases h1
  exact ⟨own_ty h2 hk, (h2.lt k hk).2, (h2.lt k hk).1⟩
theorem get_map_len {α : Type} {ls : List (List α)} {i m : Nat} (h : (ls.map List.length)[i]? = some m) : ∃ l, ls[i]? = some l ∧ l.length = m := by
  rw [List.getElem?_map] at h
  obtain ⟨l, h1, h2⟩ := Option.map_eq_some_iff.1 h
  exact ⟨l, h1, h2⟩
theorem mr_at {W B i m : Nat} {w : World} {v : Value} {ms : List Value} (h : w.ownsRow B 66 1 v m ms) (hm : MarkR W w i ms m) : DnAt w v (rds (mkN i 0 m)) := by
  refine dnAt_own h (by rw [rds_length, mkN_length]) (fun j r hj => ?_)
  have hjm : j < m := by have := (List.getElem?_eq_some_iff.1 hj).1; rw [rds_length, mkN_length] at this; exact this
  obtain ⟨u, h1, h2⟩ := hm.2 j hjm
  unfold rds at hj
  rw [List.getElem?_map, mkN_get i 0 m j hjm, Nat.zero_add] at hj
  cases hj
  exact ⟨u, h1, own_avs h2⟩
set_option maxRecDepth 100000 in
set_option maxHeartbeats 16000000 in
theorem Apart_any (B p : Nat) (F : Nat → Prop) (w : World) (h : BkI B F w p) (hB : B ≤ w.heap.size) :
    Calls Tryz.prog 14 #[.pointer (some ⟨p, 0, none⟩)] w fun e w' => e = .returned (.bool true) ∧ Below B w w' := by
  obtain ⟨a, b, c, d, vs, us, ds, es, ls, dd, h0, hp, h1, h2, h3, h4, h5, h6, ⟨n1, n2, n3, n4, n5, n6⟩, h8, h9, h10, h11, h12, h13⟩ := h
  have N0 := h0.nils
  have kA := stillAvas_any p a b c d B vs.length vs us ls w h0 h1 (by rw [← n2]; exact h2) n3 n1 (fun i l hi => by
    obtain ⟨g0, v, u, g1, g2, g3, g4⟩ := h8 i l hi
    exact ⟨by omega, v, u, g1, g2, own_avs g3, own_avs g4⟩)
  go_enter Tryz.func14, Tryz.ntmps14
  go_wp2_with (first | (go_at_call 42; refine Calls.mono (show Calls _ _ _ _ _ from stillTexts_nil p _ N0.n0) ?_; rintro e w' ⟨rfl, rfl⟩) | (go_at_call 43; refine Calls.mono (show Calls _ _ _ _ _ from stillInts_nil p _ N0.n2) ?_; rintro e w' ⟨rfl, rfl⟩) | (go_at_call 44; refine Calls.mono (show Calls _ _ _ _ _ from stillAttrs_nil p _ N0.n4) ?_; rintro e w' ⟨rfl, rfl⟩) | (go_at_call 45; refine Calls.mono (show Calls _ _ _ _ _ from stillFilters_nil p _ N0.n6) ?_; rintro e w' ⟨rfl, rfl⟩) | (go_at_call 46; refine Calls.mono (show Calls _ _ _ _ _ from stillMods_nil p _ N0.n8) ?_; rintro e w' ⟨rfl, rfl⟩) | (go_at_call 47; refine Calls.mono (show Calls _ _ _ _ _ from stillControls_nil p _ N0.n10) ?_; rintro e w' ⟨rfl, rfl⟩) | (go_at_call 48; refine Calls.mono (show Calls _ _ _ _ _ from stillMessages_nil p _ N0.n12) ?_; rintro e w' ⟨rfl, rfl⟩) | (go_at_call 49; refine Calls.mono (show Calls _ _ _ _ _ from stillElements_nil p _ N0.n14) ?_; rintro e w' ⟨rfl, rfl⟩))
  refine Calls.mono (show Calls _ _ _ _ _ from kA) ?_
  rintro e w1 ⟨rfl, hb1⟩
  have kR := stillRdns_any p a b c d B ds.length ds es dd w1 (h0.below hb1) (ownBelow h4 hb1) (by rw [← n5]; exact ownBelow h5 hb1) n6 n4 (fun i l hi => by
    obtain ⟨⟨g0, g0'⟩, v, u, g1, g2, g3, g4⟩ := h11 i l hi
    exact ⟨by omega, fun r hr => by have := g0' r hr; omega, v, u, g1, g2, (g3.below hb1).at, (g4.below hb1).at⟩)
  clear kA
  go_wp2_with fail
  refine Calls.mono (show Calls _ _ _ _ _ from kR) ?_
  rintro e w2 ⟨rfl, hb2⟩
  have hbw2 := below_ext hb1 hb2
  have H0 := h0.below hbw2
  have N2 := H0.nils
  clear kR N0
  go_wp2_with (first | (go_at_call 52; refine Calls.mono (show Calls _ _ _ _ _ from stillPlans_nil p _ N2.n20) ?_; rintro e w' ⟨rfl, rfl⟩) | (go_at_call 53; refine Calls.mono (show Calls _ _ _ _ _ from stillSteps_nil p _ N2.n22) ?_; rintro e w' ⟨rfl, rfl⟩) | (go_at_call 54; refine Calls.mono (show Calls _ _ _ _ _ from stillChanges_nil p _ N2.n24) ?_; rintro e w' ⟨rfl, rfl⟩) | (go_at_call 55; refine Calls.mono (show Calls _ _ _ _ _ from stillPairs_nil p _ N2.n26) ?_; rintro e w' ⟨rfl, rfl⟩) | (go_at_call 56; refine Calls.mono (show Calls _ _ _ _ _ from stillRules_nil p _ N2.n28) ?_; rintro e w' ⟨rfl, rfl⟩) | (go_at_call 57; refine Calls.mono (show Calls _ _ _ _ _ from stillGrants_nil p _ N2.n30) ?_; rintro e w' ⟨rfl, rfl⟩) | (go_at_call 58; refine Calls.mono (show Calls _ _ _ _ _ from stillIndexes_nil p _ N2.n32) ?_; rintro e w' ⟨rfl, rfl⟩) | (go_at_call 59; refine Calls.mono (show Calls _ _ _ _ _ from stillParts_nil p _ N2.n34) ?_; rintro e w' ⟨rfl, rfl⟩))
  go_wp2_with (first | (go_at_call 60; refine Calls.mono (show Calls _ _ _ _ _ from putSteps_nil p _ N2.n22) ?_; rintro e w' ⟨rfl, rfl⟩) | (go_at_call 61; refine Calls.mono (show Calls _ _ _ _ _ from putChanges_nil p _ N2.n24) ?_; rintro e w' ⟨rfl, rfl⟩) | (go_at_call 62; refine Calls.mono (show Calls _ _ _ _ _ from putMessages_nil p _ N2.n12) ?_; rintro e w' ⟨rfl, rfl⟩) | (go_at_call 63; refine Calls.mono (show Calls _ _ _ _ _ from putRules_nil p _ N2.n28) ?_; rintro e w' ⟨rfl, rfl⟩) | (go_at_call 64; refine Calls.mono (show Calls _ _ _ _ _ from putParts_nil p _ N2.n34) ?_; rintro e w' ⟨rfl, rfl⟩) | (go_at_call 65; refine Calls.mono (show Calls _ _ _ _ _ from putAttrs_nil p _ N2.n4) ?_; rintro e w' ⟨rfl, rfl⟩) | (go_at_call 66; refine Calls.mono (show Calls _ _ _ _ _ from putFilters_nil p _ N2.n6) ?_; rintro e w' ⟨rfl, rfl⟩) | (go_at_call 67; refine Calls.mono (show Calls _ _ _ _ _ from putMods_nil p _ N2.n8) ?_; rintro e w' ⟨rfl, rfl⟩) | (go_at_call 68; refine Calls.mono (show Calls _ _ _ _ _ from putElements_nil p _ N2.n14) ?_; rintro e w' ⟨rfl, rfl⟩))
  have A2 := ownBelow h1 hbw2
  have C2 := ownBelow h4 hbw2
  obtain ⟨yss, hyl, hyp⟩ := list_of (fun i (y : List Value) => ∃ v, ds[i]? = some v ∧ w2.ownsRow B 66 1 v y.length y ∧ (∀ u ∈ y, ∃ A N C, u = .slice A N C) ∧ y.length ≤ 1000) ds.length (fun i hi => by
    obtain ⟨⟨g0, _⟩, v, u, g1, _, g3, _⟩ := h11 i dd[i] (List.getElem?_eq_getElem (by omega))
    obtain ⟨xs, ho, ha, _⟩ := g3.below hbw2
    have hxl : xs.length = dd[i].length := by have := ho.1; omega
    rw [← hxl] at ho
    refine ⟨xs, v, g1, ho, fun x hx => ?_, by omega⟩
    obtain ⟨j, hj⟩ := List.getElem?_of_mem hx
    have hjl := (List.getElem?_eq_some_iff.1 hj).1
    obtain ⟨x', e1, e2⟩ := ha j (dd[i])[j] (List.getElem?_eq_getElem (by omega))
    rw [hj] at e1
    cases e1
    obtain ⟨q1, q2, q3⟩ := sl_of e2
    exact ⟨_, _, _, q3⟩)
  have TR := blks_ty (w := w2) (e := 66) (B := B) (vs := ds) rfl (fun i hi => by
    obtain ⟨v, g1, g2, _⟩ := hyp i yss[i] (List.getElem?_eq_getElem (by omega))
    exact ⟨v, g1, _, _, _, g2⟩)
  have hfr : ∀ v ∈ ds, ∃ A N C, v = .slice A N C := fun v hv => by
    obtain ⟨i, hi⟩ := List.getElem?_of_mem hv
    have hil := (List.getElem?_eq_some_iff.1 hi).1
    obtain ⟨v', g1, g2, _⟩ := hyp i yss[i] (List.getElem?_eq_getElem (by omega))
    rw [hi] at g1
    cases g1
    obtain ⟨q1, q2⟩ := sl_of g2
    exact ⟨_, _, _, q2.choose_spec⟩
  have kPR := putRdns_any p a b c d B ds.length ds yss w2 H0 C2 hyl n4 (fun l hl => by
    obtain ⟨i, hi⟩ := List.getElem?_of_mem hl
    obtain ⟨_, _, _, _, g⟩ := hyp i l hi
    omega) (fun i l hi => by obtain ⟨v, g1, g2, _⟩ := hyp i l hi; exact ⟨v, g1, g2⟩) hfr (fun l hl => by
    obtain ⟨i, hi⟩ := List.getElem?_of_mem hl
    obtain ⟨_, _, _, g, _⟩ := hyp i l hi
    exact g) h12
  refine Calls.mono (show Calls _ _ _ _ _ from kPR) ?_
  rintro e w3 ⟨rfl, gk3, row3⟩
  have H3 := H0.kg gk3 (fun hk => absurd ((TR p hk).1.eq H0.ty) (by decide))
  have N3 := H3.nils
  have A3 := gk3.own A2 (fun k hk hg => absurd ((TR k hg).1.eq (own_ty A2 hk)) (by decide))
  have C3 := gk3.own C2 (fun k hk hg => absurd ((TR k hg).1.eq (own_ty C2 hk)) (by decide))
  have hb3 : Below B w w3 := (hbw2.mono hB).trans (gk3.below (fun k hk => (TR k hk).2.2) (Nat.le_trans hB hbw2.size))
  have v3 : ∀ (i : Nat) (l : List Av), ls[i]? = some l → ∃ v, vs[i]? = some v ∧ w3.ownsRow B 146 2 v l.length (aV l) := fun i l hi => by
    obtain ⟨_, v, u, g1, _, g3, _⟩ := h8 i l hi
    have g4 := ownBelow g3 hbw2
    exact ⟨v, g1, gk3.own g4 (fun k hk hg => absurd ((TR k hg).1.eq (own_ty g4 hk)) (by decide))⟩
  have v2l : ∀ k, Blks vs k → k < w2.heap.size := by
    rintro k ⟨v, hm, hk⟩
    obtain ⟨i, hi⟩ := List.getElem?_of_mem hm
    have hil := (List.getElem?_eq_some_iff.1 hi).1
    obtain ⟨_, v', u, g1, _, g3, _⟩ := h8 i ls[i] (List.getElem?_eq_getElem (by omega))
    rw [hi] at g1
    cases g1
    exact (ownBelow g3 hbw2).lt k hk |>.2
  clear kPR N2
  go_wp2_with (first | (go_at_call 70; refine Calls.mono (show Calls _ _ _ _ _ from putTexts_nil p _ N3.n0) ?_; rintro e w' ⟨rfl, rfl⟩) | (go_at_call 71; refine Calls.mono (show Calls _ _ _ _ _ from putInts_nil p _ N3.n2) ?_; rintro e w' ⟨rfl, rfl⟩) | (go_at_call 72; refine Calls.mono (show Calls _ _ _ _ _ from putControls_nil p _ N3.n10) ?_; rintro e w' ⟨rfl, rfl⟩))
  have TA := blks_ty (w := w3) (e := 146) (B := B) (vs := vs) rfl (fun i hi => by
    obtain ⟨v, g1, g2⟩ := v3 i ls[i] (List.getElem?_eq_getElem (by omega))
    exact ⟨v, g1, _, _, _, g2⟩)
  have kPA := putAvas_any p a b c d B vs.length vs ls w3 H3 A3 n3 n1 (fun l hl => by
    obtain ⟨i, hi⟩ := List.getElem?_of_mem hl
    have := (h8 i l hi).1
    omega) v3 h9
  refine Calls.mono (show Calls _ _ _ _ _ from kPA) ?_
  rintro e w4 ⟨rfl, gk4, row4⟩
  have H4 := H3.kg gk4 (fun hk => absurd ((TA p hk).1.eq H3.ty) (by decide))
  have N4 := H4.nils
  have A4 := gk4.own A3 (fun k hk hg => absurd ((TA k hg).1.eq (own_ty A3 hk)) (by decide))
  have C4 := gk4.own C3 (fun k hk hg => absurd ((TA k hg).1.eq (own_ty C3 hk)) (by decide))
  have hb4 : Below B w w4 := hb3.trans (gk4.below (fun k hk => (TA k hk).2.2) (Nat.le_trans hB hb3.size))
  have m4 : ∀ (i m : Nat), (yss.map List.length)[i]? = some m → ∃ v, ds[i]? = some v ∧ MR w2.heap.size B w4 i v m := fun i m hi => by
    obtain ⟨l, h1, rfl⟩ := get_map_len hi
    obtain ⟨v, g1, ms, g2, g3⟩ := row3 i l h1
    exact ⟨v, g1, ms, gk4.own g2 (fun k hk hg => absurd ((TA k hg).1.eq (own_ty g2 hk)) (by decide)), g3.kg gk4 v2l⟩
  have a4 : ∀ (i m : Nat), (ls.map List.length)[i]? = some m → ∃ v, vs[i]? = some v ∧ w4.ownsRow B 146 2 v m (mrk i m) := fun i m hi => by
    obtain ⟨l, h1, rfl⟩ := get_map_len hi
    exact row4 i l h1
  clear kPA N3
  go_wp2_with (first | (go_at_call 74; refine Calls.mono (show Calls _ _ _ _ _ from putPlans_nil p _ N4.n20) ?_; rintro e w' ⟨rfl, rfl⟩) | (go_at_call 75; refine Calls.mono (show Calls _ _ _ _ _ from putPairs_nil p _ N4.n26) ?_; rintro e w' ⟨rfl, rfl⟩) | (go_at_call 76; refine Calls.mono (show Calls _ _ _ _ _ from putGrants_nil p _ N4.n30) ?_; rintro e w' ⟨rfl, rfl⟩) | (go_at_call 77; refine Calls.mono (show Calls _ _ _ _ _ from putIndexes_nil p _ N4.n32) ?_; rintro e w' ⟨rfl, rfl⟩))
  go_wp2_with (first | (go_at_call 78; refine Calls.mono (show Calls _ _ _ _ _ from growTexts_nil p _ N4.n0) ?_; rintro e w' ⟨rfl, rfl⟩) | (go_at_call 79; refine Calls.mono (show Calls _ _ _ _ _ from growInts_nil p _ N4.n2) ?_; rintro e w' ⟨rfl, rfl⟩) | (go_at_call 80; refine Calls.mono (show Calls _ _ _ _ _ from growAttrs_nil p _ N4.n4) ?_; rintro e w' ⟨rfl, rfl⟩) | (go_at_call 81; refine Calls.mono (show Calls _ _ _ _ _ from growFilters_nil p _ N4.n6) ?_; rintro e w' ⟨rfl, rfl⟩) | (go_at_call 82; refine Calls.mono (show Calls _ _ _ _ _ from growMods_nil p _ N4.n8) ?_; rintro e w' ⟨rfl, rfl⟩) | (go_at_call 83; refine Calls.mono (show Calls _ _ _ _ _ from growControls_nil p _ N4.n10) ?_; rintro e w' ⟨rfl, rfl⟩) | (go_at_call 84; refine Calls.mono (show Calls _ _ _ _ _ from growMessages_nil p _ N4.n12) ?_; rintro e w' ⟨rfl, rfl⟩) | (go_at_call 85; refine Calls.mono (show Calls _ _ _ _ _ from growElements_nil p _ N4.n14) ?_; rintro e w' ⟨rfl, rfl⟩))
  have TA4 := blks_ty (w := w4) (e := 146) (B := B) (vs := vs) rfl (fun i hi => by
    obtain ⟨v, g1, g2⟩ := a4 i (ls[i]'(by omega)).length (by rw [List.getElem?_map, List.getElem?_eq_getElem (by omega)]; rfl)
    exact ⟨v, g1, _, _, _, g2⟩)
  have kGA := growAvas_any p a b c d B vs.length vs (ls.map List.length) w4 H4 A4 (Nat.le_trans hB hb4.size) (by simp [n3]) n1 (fun m hm => by
    obtain ⟨i, hi⟩ := List.getElem?_of_mem hm
    obtain ⟨l, h1, rfl⟩ := get_map_len hi
    have := (h8 i l h1).1
    omega) a4 h9
  refine Calls.mono (show Calls _ _ _ _ _ from kGA) ?_
  rintro e w5 ⟨oA, rfl, gsA, gk5, oown5, grow5⟩
  have H5 := H4.kg gk5 (fun hk => absurd ((TA4 p hk).1.eq H4.ty) (by decide))
  have N5 := H5.nils
  have A5 := gk5.own A4 (fun k hk hg => absurd ((TA4 k hg).1.eq (own_ty A4 hk)) (by decide))
  have C5 := gk5.own C4 (fun k hk hg => absurd ((TA4 k hg).1.eq (own_ty C4 hk)) (by decide))
  have hb5 : Below B w w5 := hb4.trans (gk5.below (fun k hk => (TA4 k hk).2.2) (Nat.le_trans hB hb4.size))
  have m5 : ∀ (i m : Nat), (yss.map List.length)[i]? = some m → ∃ v, ds[i]? = some v ∧ MR w2.heap.size B w5 i v m := fun i m hi => by
    obtain ⟨v, g1, ms, g2, g3⟩ := m4 i m hi
    exact ⟨v, g1, ms, gk5.own g2 (fun k hk hg => absurd ((TA4 k hg).1.eq (own_ty g2 hk)) (by decide)), g3.kg gk5 v2l⟩
  have TR5 := blks_ty (w := w5) (e := 66) (B := B) (vs := ds) rfl (fun i hi => by
    obtain ⟨v, g1, ms, g2, _⟩ := m5 i (yss[i]'(by omega)).length (by rw [List.getElem?_map, List.getElem?_eq_getElem (by omega)]; rfl)
    exact ⟨v, g1, _, _, _, g2⟩)
  have kGR := growRdns_any w2.heap.size p a b c d B ds.length ds (yss.map List.length) w5 H5 C5 (Nat.le_trans hB hb5.size) (by
    have e1 := gk3.size
    have e2 := gk4.size
    have e3 := gk5.size
    omega) (by simp [hyl]) n4 (fun m hm => by
    obtain ⟨i, hi⟩ := List.getElem?_of_mem hm
    obtain ⟨l, h1, rfl⟩ := get_map_len hi
    obtain ⟨_, _, _, _, g⟩ := hyp i l h1
    omega) m5 h12
  clear kGA N4
  go_wp2_with fail
  refine Calls.mono (show Calls _ _ _ _ _ from kGR) ?_
  rintro e w6 ⟨oR, rfl, gsR, gk6, oown6, grow6⟩
  have H6 := H5.kg gk6 (fun hk => absurd ((TR5 p hk).1.eq H5.ty) (by decide))
  have N6 := H6.nils
  have A6 := gk6.own A5 (fun k hk hg => absurd ((TR5 k hg).1.eq (own_ty A5 hk)) (by decide))
  have C6 := gk6.own C5 (fun k hk hg => absurd ((TR5 k hg).1.eq (own_ty C5 hk)) (by decide))
  have O6 := gk6.own oown5 (fun k hk hg => absurd ((TR5 k hg).1.eq (own_ty oown5 hk)) (by decide))
  have hb6 : Below B w w6 := hb5.trans (gk6.below (fun k hk => (TR5 k hk).2.2) (Nat.le_trans hB hb5.size))
  have tA : ∀ (i m : Nat), ((ls.map List.length).map (· + 72))[i]? = some m → m ≤ 950000 ∧ ∃ v, gsA[i]? = some v ∧ AvsAt w6 v (prs (mkN i 0 m)) := fun i m hi => by
    rw [List.getElem?_map] at hi
    obtain ⟨m', h1, rfl⟩ := Option.map_eq_some_iff.1 hi
    obtain ⟨l, q1, q2⟩ := get_map_len h1
    have q3 := (h8 i l q1).1
    obtain ⟨v, _, _, g3⟩ := grow5 i m' h1
    obtain ⟨g, e1, e2, _⟩ := g3 (by have := (List.getElem?_eq_some_iff.1 q1).1; omega)
    refine ⟨by omega, g, e1, own_avs (B := B) ?_⟩
    rw [prs_length, mkN_length]
    exact gk6.own e2 (fun k hk hg => absurd ((TR5 k hg).1.eq (own_ty e2 hk)) (by decide))
  have tV : ∀ (i m : Nat), (ls.map List.length)[i]? = some m → m ≤ 950000 ∧ ∃ v, vs[i]? = some v ∧ AvsAt w6 v (prs (mkN i 0 m)) := fun i m h1 => by
    obtain ⟨l, q1, q2⟩ := get_map_len h1
    have q3 := (h8 i l q1).1
    obtain ⟨v, g1, e2, _⟩ := grow5 i m h1
    refine ⟨by omega, v, g1, own_avs (B := B) ?_⟩
    rw [prs_length, mkN_length]
    exact gk6.own e2 (fun k hk hg => absurd ((TR5 k hg).1.eq (own_ty e2 hk)) (by decide))
  have tR : ∀ (i m : Nat), ((yss.map List.length).map (· + 72))[i]? = some m → m ≤ 950000 ∧ ∃ v, gsR[i]? = some v ∧ DnAt w6 v (rds (mkN i 0 m)) := fun i m hi => by
    rw [List.getElem?_map] at hi
    obtain ⟨m', h1, rfl⟩ := Option.map_eq_some_iff.1 hi
    obtain ⟨l, q1, q2⟩ := get_map_len h1
    obtain ⟨_, _, _, _, q3⟩ := hyp i l q1
    obtain ⟨v, _, _, g3⟩ := grow6 i m' h1
    obtain ⟨g, e1, ⟨ms, e2, e3⟩, _⟩ := g3 (by have := (List.getElem?_eq_some_iff.1 q1).1; omega)
    exact ⟨by omega, g, e1, mr_at e2 e3⟩
  have tC : ∀ (i m : Nat), (yss.map List.length)[i]? = some m → m ≤ 950000 ∧ ∃ v, ds[i]? = some v ∧ DnAt w6 v (rds (mkN i 0 m)) := fun i m h1 => by
    obtain ⟨l, q1, q2⟩ := get_map_len h1
    obtain ⟨_, _, _, _, q3⟩ := hyp i l q1
    obtain ⟨v, g1, ⟨ms, e2, e3⟩, _⟩ := grow6 i m h1
    exact ⟨by omega, v, g1, mr_at e2 e3⟩
  obtain ⟨x1, x2, hxe⟩ := sl_of O6
  obtain ⟨x3, x4, hxe2⟩ := sl_of oown6
  obtain ⟨x5, x6, hxe3⟩ := sl_of A6
  obtain ⟨x7, x8, hxe4⟩ := sl_of C6
  subst hxe hxe2 hxe3 hxe4
  obtain ⟨M0, _, M2, _⟩ := H6.cells
  have Z := N6
  obtain ⟨z0, z2, z4, z6, z8, z10, z12, z14, z20, z22, z24, z26, z28, z30, z32, z34⟩ := Z
  clear kGR N5
  go_wp2_with (first | (go_at_call 88; refine Calls.mono (show Calls _ _ _ _ _ from growPlans_nil p _ N6.n20) ?_; rintro e w' ⟨rfl, rfl⟩) | (go_at_call 89; refine Calls.mono (show Calls _ _ _ _ _ from growSteps_nil p _ N6.n22) ?_; rintro e w' ⟨rfl, rfl⟩) | (go_at_call 90; refine Calls.mono (show Calls _ _ _ _ _ from growChanges_nil p _ N6.n24) ?_; rintro e w' ⟨rfl, rfl⟩) | (go_at_call 91; refine Calls.mono (show Calls _ _ _ _ _ from growPairs_nil p _ N6.n26) ?_; rintro e w' ⟨rfl, rfl⟩) | (go_at_call 92; refine Calls.mono (show Calls _ _ _ _ _ from growRules_nil p _ N6.n28) ?_; rintro e w' ⟨rfl, rfl⟩) | (go_at_call 93; refine Calls.mono (show Calls _ _ _ _ _ from growGrants_nil p _ N6.n30) ?_; rintro e w' ⟨rfl, rfl⟩) | (go_at_call 94; refine Calls.mono (show Calls _ _ _ _ _ from growIndexes_nil p _ N6.n32) ?_; rintro e w' ⟨rfl, rfl⟩) | (go_at_call 95; refine Calls.mono (show Calls _ _ _ _ _ from growParts_nil p _ N6.n34) ?_; rintro e w' ⟨rfl, rfl⟩))
  go_wp2_with (first | (go_at_call 96; refine Calls.mono (show Calls _ _ _ _ _ from markedTexts_nil _) ?_; rintro e w' ⟨rfl, rfl⟩) | (go_at_call 97; refine Calls.mono (show Calls _ _ _ _ _ from markedInts_nil _) ?_; rintro e w' ⟨rfl, rfl⟩) | (go_at_call 98; refine Calls.mono (show Calls _ _ _ _ _ from markedAttrs_nil _) ?_; rintro e w' ⟨rfl, rfl⟩) | (go_at_call 99; refine Calls.mono (show Calls _ _ _ _ _ from markedFilters_nil _) ?_; rintro e w' ⟨rfl, rfl⟩) | (go_at_call 100; refine Calls.mono (show Calls _ _ _ _ _ from markedMods_nil _) ?_; rintro e w' ⟨rfl, rfl⟩) | (go_at_call 101; refine Calls.mono (show Calls _ _ _ _ _ from markedControls_nil _) ?_; rintro e w' ⟨rfl, rfl⟩) | (go_at_call 102; refine Calls.mono (show Calls _ _ _ _ _ from markedMessages_nil _) ?_; rintro e w' ⟨rfl, rfl⟩) | (go_at_call 103; refine Calls.mono (show Calls _ _ _ _ _ from markedElements_nil _) ?_; rintro e w' ⟨rfl, rfl⟩))
  have k7 := markedAvas_any _ _ _ gsA ((ls.map List.length).map (· + 72)) w6 O6 (by simp [n3]) n1 tA
  refine Calls.mono (show Calls _ _ _ _ _ from k7) ?_
  rintro e w7 ⟨rfl, hb7⟩
  clear z0 z2 z4 z6 z8 z10 z12 z14 z20 z22 z24 z26 z28 z30 z32 z34 M0 M2 k7
  have H7 := H6.below hb7
  obtain ⟨M70, _, M72, _⟩ := H7.cells
  obtain ⟨z0, z2, z4, z6, z8, z10, z12, z14, z20, z22, z24, z26, z28, z30, z32, z34⟩ := H7.nils
  have k8 := markedAvas_any _ _ _ vs (ls.map List.length) w7 (ownBelow A6 hb7) (by simp [n3]) n1 (fun i m hi => by
    obtain ⟨g1, v, g2, g3⟩ := tV i m hi
    exact ⟨g1, v, g2, g3.below hb7⟩)
  go_wp2_with fail
  refine Calls.mono (show Calls _ _ _ _ _ from k8) ?_
  rintro e w8 ⟨rfl, hb8⟩
  have hb68 := below_ext hb7 hb8
  clear z0 z2 z4 z6 z8 z10 z12 z14 z20 z22 z24 z26 z28 z30 z32 z34 M70 M72 k8
  have H8 := H7.below hb8
  obtain ⟨M80, _, M82, _⟩ := H8.cells
  obtain ⟨z0, z2, z4, z6, z8, z10, z12, z14, z20, z22, z24, z26, z28, z30, z32, z34⟩ := H8.nils
  have k9 := markedRdns_any _ _ _ gsR ((yss.map List.length).map (· + 72)) w8 (ownBelow oown6 hb68) (by simp [hyl]) n4 (fun i m hi => by
    obtain ⟨g1, v, g2, g3⟩ := tR i m hi
    exact ⟨g1, v, g2, g3.below hb68⟩)
  go_wp2_with fail
  refine Calls.mono (show Calls _ _ _ _ _ from k9) ?_
  rintro e w9 ⟨rfl, hb9⟩
  have hb69 := below_ext hb68 hb9
  clear z0 z2 z4 z6 z8 z10 z12 z14 z20 z22 z24 z26 z28 z30 z32 z34 M80 M82 k9
  have H9 := H8.below hb9
  obtain ⟨M90, _, M92, _⟩ := H9.cells
  obtain ⟨z0, z2, z4, z6, z8, z10, z12, z14, z20, z22, z24, z26, z28, z30, z32, z34⟩ := H9.nils
  have k10 := markedRdns_any _ _ _ ds (yss.map List.length) w9 (ownBelow C6 hb69) (by simp [hyl]) n4 (fun i m hi => by
    obtain ⟨g1, v, g2, g3⟩ := tC i m hi
    exact ⟨g1, v, g2, g3.below hb69⟩)
  go_wp2_with fail
  refine Calls.mono (show Calls _ _ _ _ _ from k10) ?_
  rintro e w10 ⟨rfl, hb10⟩
  have hb610 := below_ext hb69 hb10
  clear z0 z2 z4 z6 z8 z10 z12 z14 z20 z22 z24 z26 z28 z30 z32 z34 M90 M92 k10
  have H10 := H9.below hb10
  obtain ⟨M100, _, M102, _⟩ := H10.cells
  obtain ⟨z0, z2, z4, z6, z8, z10, z12, z14, z20, z22, z24, z26, z28, z30, z32, z34⟩ := H10.nils
  go_wp2_with (first | (go_at_call 106; refine Calls.mono (show Calls _ _ _ _ _ from markedPlans_nil _) ?_; rintro e w' ⟨rfl, rfl⟩) | (go_at_call 107; refine Calls.mono (show Calls _ _ _ _ _ from markedSteps_nil _) ?_; rintro e w' ⟨rfl, rfl⟩) | (go_at_call 108; refine Calls.mono (show Calls _ _ _ _ _ from markedChanges_nil _) ?_; rintro e w' ⟨rfl, rfl⟩) | (go_at_call 109; refine Calls.mono (show Calls _ _ _ _ _ from markedPairs_nil _) ?_; rintro e w' ⟨rfl, rfl⟩) | (go_at_call 110; refine Calls.mono (show Calls _ _ _ _ _ from markedRules_nil _) ?_; rintro e w' ⟨rfl, rfl⟩) | (go_at_call 111; refine Calls.mono (show Calls _ _ _ _ _ from markedGrants_nil _) ?_; rintro e w' ⟨rfl, rfl⟩) | (go_at_call 112; refine Calls.mono (show Calls _ _ _ _ _ from markedIndexes_nil _) ?_; rintro e w' ⟨rfl, rfl⟩) | (go_at_call 113; refine Calls.mono (show Calls _ _ _ _ _ from markedParts_nil _) ?_; rintro e w' ⟨rfl, rfl⟩))
  go_ret
  exact ⟨rfl, hb6.trans (hb610.mono (Nat.le_trans hB hb6.size))⟩
end Go.Proofs.YtegigcneimjimaaGreatDoor
