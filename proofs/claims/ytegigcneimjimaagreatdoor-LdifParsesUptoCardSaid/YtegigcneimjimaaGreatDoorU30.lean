/- BgO, LwCa, LwP. -/
import Derived.Test.YtegigcneimjimaaGreatDoorU28
import Derived.Test.YtegigcneimjimaaGreatDoorU29
namespace Go.Proofs.YtegigcneimjimaaGreatDoor
open Go.RowKit Go.Lib
set_option maxRecDepth 100000
set_option maxHeartbeats 16000000
def KB (E L : TypeId) (s : Nat) (mk : Nat → Nat → List Value) (Br B : Nat) (w : World) (a : Value) (n : Nat) (vs : List Value) (ns : List Nat) (k : Nat) : Prop :=
  w.ownsRow Br L 1 a n vs ∧ MkI E s mk B w vs ns k
theorem KB.kg {E L : TypeId} {s Br B n k : Nat} {mk : Nat → Nat → List Value} {G : Nat → Prop} {w w' : World} {a : Value} {vs : List Value} {ns : List Nat} (h : KB E L s mk Br B w a n vs ns k) (hk : KG G w w') (hG : ∀ b, G b → ∃ t, Ty w b t ∧ t ≠ E ∧ t ≠ L) : KB E L s mk Br B w' a n vs ns k :=
  ⟨hk.own h.1 (fun b hb hg => by obtain ⟨t, h1, _, h3⟩ := hG b hg; exact h3 (h1.eq (own_ty h.1 hb))), fun i m hi => by
    obtain ⟨v, xs, h1, h2, h3⟩ := h.2 i m hi
    exact ⟨v, xs, h1, hk.own h2 (fun b hb hg => by obtain ⟨t, e1, e2, _⟩ := hG b hg; exact e2 (e1.eq (own_ty h2 hb))), h3⟩⟩
theorem KB.below {E L : TypeId} {s Br B n k : Nat} {mk : Nat → Nat → List Value} {w w' : World} {a : Value} {vs : List Value} {ns : List Nat} (h : KB E L s mk Br B w a n vs ns k) (hb : Below w.heap.size w w') : KB E L s mk Br B w' a n vs ns k :=
  h.kg (KG.of_below (G := fun _ => False) hb) (fun _ h => h.elim)
theorem nils_of {w : World} {p : Nat} {b : Nat → Value} (h : BF w p b) (hn : ∀ i, nilF i = true → b i = .slice none 0 0) (i : Nat) (hi : i < 36) (h1 : nilF i = true) : w.cell? ⟨p, i, none⟩ = some (.slice none 0 0) := by
  rw [h.cell i hi, hn i h1]
theorem get_map_len {α : Type} {ls : List (List α)} {i m : Nat} (h : (ls.map List.length)[i]? = some m) : ∃ l, ls[i]? = some l ∧ l.length = m := by
  rw [List.getElem?_map] at h
  obtain ⟨l, h1, h2⟩ := Option.map_eq_some_iff.1 h
  exact ⟨l, h1, h2⟩
theorem Apart_any (B p : Nat) (F : Nat → Prop) (w : World) (h : BkI B F w p) (hB : B ≤ w.heap.size) :
    Calls Tryz.prog 14 #[.pointer (some ⟨p, 0, none⟩)] w fun e w' => e = .returned (.bool true) ∧ Below B w w' := by
  obtain ⟨b, h0, hp, hn, K0, K1, K2, K3⟩ := h
  obtain ⟨vs0, us0, ls0, r0, u0, _, ⟨n0, m0, l0⟩, e0, s0, _⟩ := K0
  obtain ⟨vs1, us1, ls1, r1, u1, _, ⟨n1, m1, l1⟩, e1, s1, _⟩ := K1
  obtain ⟨vs2, us2, ls2, r2, u2, _, ⟨n2, m2, l2⟩, e2, s2, _⟩ := K2
  obtain ⟨vs3, us3, ls3, r3, u3, _, ⟨n3, m3, l3⟩, e3, s3, _⟩ := K3
  have L0 : ∀ m ∈ ls0.map List.length, m ≤ 900000 := fun m hm => by
    obtain ⟨i, hi⟩ := List.getElem?_of_mem hm
    obtain ⟨l, h1, rfl⟩ := get_map_len hi
    have hl := (e0 i l h1).1
    exact hl
  have L0' : ∀ m ∈ (ls0.map List.length).map (· + 72), m ≤ 950000 := fun m hm => by
    obtain ⟨m', h1, rfl⟩ := List.mem_map.1 hm
    have := L0 m' h1
    omega
  have S0 : (ls0.map List.length).length = vs0.length := by rw [List.length_map]; exact l0
  have L1 : ∀ m ∈ ls1.map List.length, m ≤ 900000 := fun m hm => by
    obtain ⟨i, hi⟩ := List.getElem?_of_mem hm
    obtain ⟨l, h1, rfl⟩ := get_map_len hi
    have hl := (e1 i l h1).1
    exact hl.1
  have L1' : ∀ m ∈ (ls1.map List.length).map (· + 72), m ≤ 950000 := fun m hm => by
    obtain ⟨m', h1, rfl⟩ := List.mem_map.1 hm
    have := L1 m' h1
    omega
  have S1 : (ls1.map List.length).length = vs1.length := by rw [List.length_map]; exact l1
  have L2 : ∀ m ∈ ls2.map List.length, m ≤ 900000 := fun m hm => by
    obtain ⟨i, hi⟩ := List.getElem?_of_mem hm
    obtain ⟨l, h1, rfl⟩ := get_map_len hi
    have hl := (e2 i l h1).1
    exact hl.1
  have L2' : ∀ m ∈ (ls2.map List.length).map (· + 72), m ≤ 950000 := fun m hm => by
    obtain ⟨m', h1, rfl⟩ := List.mem_map.1 hm
    have := L2 m' h1
    omega
  have S2 : (ls2.map List.length).length = vs2.length := by rw [List.length_map]; exact l2
  have L3 : ∀ m ∈ ls3.map List.length, m ≤ 900000 := fun m hm => by
    obtain ⟨i, hi⟩ := List.getElem?_of_mem hm
    obtain ⟨l, h1, rfl⟩ := get_map_len hi
    have hl := (e3 i l h1).1
    exact hl.1
  have L3' : ∀ m ∈ (ls3.map List.length).map (· + 72), m ≤ 950000 := fun m hm => by
    obtain ⟨m', h1, rfl⟩ := List.mem_map.1 hm
    have := L3 m' h1
    omega
  have S3 : (ls3.map List.length).length = vs3.length := by rw [List.length_map]; exact l3
  have H0 := h0
  have N0 := nils_of h0 hn
  have b0 : Below w.heap.size w w := Below.refl _ _
  go_enter Tryz.func14, Tryz.ntmps14
  go_wp2_with fail
  have ks := stillTexts_any p (b 0) (b 1) b B vs0.length vs0 us0 ls0 w H0 rfl rfl (ownBelow r0 b0) (by rw [← m0]; exact ownBelow u0 b0) l0 n0 (fun j l hj => by
    obtain ⟨g0, v, u, g1, g2, g3, g4⟩ := e0 j l hj
    exact ⟨g0, v, u, g1, g2, g3.below b0, g4.below b0⟩)
  refine Calls.mono (show Calls _ _ _ _ _ from ks) ?_
  rintro e w1 ⟨rfl, hbn⟩
  have b1 := below_ext b0 hbn
  have H1 := H0.below hbn
  have N1 := nils_of H1 hn
  clear ks hbn b0 H0 N0
  go_wp2_with (first | (go_at_call 43; refine Calls.mono (show Calls _ _ _ _ _ from stillInts_nil p _ (N1 2 (by decide) (by decide))) ?_; rintro e w' ⟨rfl, rfl⟩))
  have ks := stillAttrs_any p (b 4) (b 5) b B vs1.length vs1 us1 ls1 w1 H1 rfl rfl (ownBelow r1 b1) (by rw [← m1]; exact ownBelow u1 b1) l1 n1 (fun j l hj => by
    obtain ⟨g0, v, u, g1, g2, g3, g4⟩ := e1 j l hj
    exact ⟨g0, v, u, g1, g2, g3.below b1, g4.below b1⟩)
  refine Calls.mono (show Calls _ _ _ _ _ from ks) ?_
  rintro e w2 ⟨rfl, hbn⟩
  have b2 := below_ext b1 hbn
  have H2 := H1.below hbn
  have N2 := nils_of H2 hn
  clear ks hbn b1 H1 N1
  go_wp2_with (first | (go_at_call 45; refine Calls.mono (show Calls _ _ _ _ _ from stillFilters_nil p _ (N2 6 (by decide) (by decide))) ?_; rintro e w' ⟨rfl, rfl⟩))
  have ks := stillMods_any p (b 8) (b 9) b B vs2.length vs2 us2 ls2 w2 H2 rfl rfl (ownBelow r2 b2) (by rw [← m2]; exact ownBelow u2 b2) l2 n2 (fun j l hj => by
    obtain ⟨g0, v, u, g1, g2, g3, g4⟩ := e2 j l hj
    exact ⟨g0, v, u, g1, g2, g3.below b2, g4.below b2⟩)
  refine Calls.mono (show Calls _ _ _ _ _ from ks) ?_
  rintro e w3 ⟨rfl, hbn⟩
  have b3 := below_ext b2 hbn
  have H3 := H2.below hbn
  have N3 := nils_of H3 hn
  clear ks hbn b2 H2 N2
  go_wp2_with (first | (go_at_call 47; refine Calls.mono (show Calls _ _ _ _ _ from stillControls_nil p _ (N3 10 (by decide) (by decide))) ?_; rintro e w' ⟨rfl, rfl⟩) | (go_at_call 48; refine Calls.mono (show Calls _ _ _ _ _ from stillMessages_nil p _ (N3 12 (by decide) (by decide))) ?_; rintro e w' ⟨rfl, rfl⟩) | (go_at_call 49; refine Calls.mono (show Calls _ _ _ _ _ from stillElements_nil p _ (N3 14 (by decide) (by decide))) ?_; rintro e w' ⟨rfl, rfl⟩) | (go_at_call 50; refine Calls.mono (show Calls _ _ _ _ _ from stillAvas_nil p _ (N3 16 (by decide) (by decide))) ?_; rintro e w' ⟨rfl, rfl⟩) | (go_at_call 51; refine Calls.mono (show Calls _ _ _ _ _ from stillRdns_nil p _ (N3 18 (by decide) (by decide))) ?_; rintro e w' ⟨rfl, rfl⟩) | (go_at_call 52; refine Calls.mono (show Calls _ _ _ _ _ from stillPlans_nil p _ (N3 20 (by decide) (by decide))) ?_; rintro e w' ⟨rfl, rfl⟩) | (go_at_call 53; refine Calls.mono (show Calls _ _ _ _ _ from stillSteps_nil p _ (N3 22 (by decide) (by decide))) ?_; rintro e w' ⟨rfl, rfl⟩))
  have ks := stillChanges_any p (b 24) (b 25) b B vs3.length vs3 us3 ls3 w3 H3 rfl rfl (ownBelow r3 b3) (by rw [← m3]; exact ownBelow u3 b3) l3 n3 (fun j l hj => by
    obtain ⟨g0, v, u, g1, g2, g3, g4⟩ := e3 j l hj
    exact ⟨g0, v, u, g1, g2, g3.below b3, g4.below b3⟩)
  refine Calls.mono (show Calls _ _ _ _ _ from ks) ?_
  rintro e w4 ⟨rfl, hbn⟩
  have b4 := below_ext b3 hbn
  have H4 := H3.below hbn
  have N4 := nils_of H4 hn
  clear ks hbn b3 H3 N3
  go_wp2_with (first | (go_at_call 55; refine Calls.mono (show Calls _ _ _ _ _ from stillPairs_nil p _ (N4 26 (by decide) (by decide))) ?_; rintro e w' ⟨rfl, rfl⟩) | (go_at_call 56; refine Calls.mono (show Calls _ _ _ _ _ from stillRules_nil p _ (N4 28 (by decide) (by decide))) ?_; rintro e w' ⟨rfl, rfl⟩) | (go_at_call 57; refine Calls.mono (show Calls _ _ _ _ _ from stillGrants_nil p _ (N4 30 (by decide) (by decide))) ?_; rintro e w' ⟨rfl, rfl⟩) | (go_at_call 58; refine Calls.mono (show Calls _ _ _ _ _ from stillIndexes_nil p _ (N4 32 (by decide) (by decide))) ?_; rintro e w' ⟨rfl, rfl⟩) | (go_at_call 59; refine Calls.mono (show Calls _ _ _ _ _ from stillParts_nil p _ (N4 34 (by decide) (by decide))) ?_; rintro e w' ⟨rfl, rfl⟩))
  have A0 : KB 9 58 1 mkTexts B B w4 (b 0) vs0.length vs0 (ls0.map List.length) 0 := ⟨ownBelow r0 b4, fun j m hj => by
    obtain ⟨l, h1, rfl⟩ := get_map_len hj
    obtain ⟨_, v, _, g1, _, g3, _⟩ := e0 j l h1
    obtain ⟨xs, g4⟩ := (g3.below b4).flat
    exact ⟨v, xs, g1, g4, fun h => by omega⟩⟩
  have A1 : KB 179 44 2 mkAttrs B B w4 (b 4) vs1.length vs1 (ls1.map List.length) 0 := ⟨ownBelow r1 b4, fun j m hj => by
    obtain ⟨l, h1, rfl⟩ := get_map_len hj
    obtain ⟨_, v, _, g1, _, g3, _⟩ := e1 j l h1
    obtain ⟨xs, g4⟩ := (g3.below b4).flat
    exact ⟨v, xs, g1, g4, fun h => by omega⟩⟩
  have A2 : KB 182 45 3 mkMods B B w4 (b 8) vs2.length vs2 (ls2.map List.length) 0 := ⟨ownBelow r2 b4, fun j m hj => by
    obtain ⟨l, h1, rfl⟩ := get_map_len hj
    obtain ⟨_, v, _, g1, _, g3, _⟩ := e2 j l h1
    obtain ⟨xs, g4⟩ := (g3.below b4).flat
    exact ⟨v, xs, g1, g4, fun h => by omega⟩⟩
  have A3 : KB 47 51 10 mkChanges B B w4 (b 24) vs3.length vs3 (ls3.map List.length) 0 := ⟨ownBelow r3 b4, fun j m hj => by
    obtain ⟨l, h1, rfl⟩ := get_map_len hj
    obtain ⟨_, v, _, g1, _, g3, _⟩ := e3 j l h1
    obtain ⟨xs, g4⟩ := (g3.below b4).flat
    exact ⟨v, xs, g1, g4, fun h => by omega⟩⟩
  have B4 : Below B w w4 := b4.mono hB
  clear e0 r0 u0 e1 r1 u1 e2 r2 u2 e3 r3 u3 b4
  go_wp2_with (first | (go_at_call 60; refine Calls.mono (show Calls _ _ _ _ _ from putSteps_nil p _ (N4 22 (by decide) (by decide))) ?_; rintro e w' ⟨rfl, rfl⟩))
  have kp := putChanges_any p (b 24) b B vs3.length vs3 (ls3.map List.length) w4 H4 rfl A3.1 S3 n3 L3 A3.2 s3
  refine Calls.mono (show Calls _ _ _ _ _ from kp) ?_
  rintro e w5 ⟨rfl, gk, row⟩
  clear kp
  have T := A3.2.ty S3 rfl
  have hG : ∀ x, Blks vs3 x → ∃ t, Ty w4 x t ∧ t = 47 := fun x hx => ⟨_, (T x hx).1, rfl⟩
  have H5 := H4.kg gk (fun hk => absurd ((T p hk).1.eq H4.ty) (by decide))
  have N5 := nils_of H5 hn
  have B5 : Below B w w5 := B4.trans (gk.below (fun x hx => (T x hx).2.2) (Nat.le_trans hB B4.size))
  have A3' : KB 47 51 10 mkChanges B B w5 (b 24) vs3.length vs3 (ls3.map List.length) vs3.length := ⟨gk.own A3.1 (fun x hx hg => absurd ((T x hg).1.eq (own_ty A3.1 hx)) (by decide)), row⟩
  replace A3 := A3'
  clear A3'
  replace A0 := A0.kg gk (fun x hx => by obtain ⟨t, h1, rfl⟩ := hG x hx; exact ⟨_, h1, by decide, by decide⟩)
  replace A1 := A1.kg gk (fun x hx => by obtain ⟨t, h1, rfl⟩ := hG x hx; exact ⟨_, h1, by decide, by decide⟩)
  replace A2 := A2.kg gk (fun x hx => by obtain ⟨t, h1, rfl⟩ := hG x hx; exact ⟨_, h1, by decide, by decide⟩)
  clear T hG gk row H4 N4 B4
  go_wp2_with (first | (go_at_call 62; refine Calls.mono (show Calls _ _ _ _ _ from putMessages_nil p _ (N5 12 (by decide) (by decide))) ?_; rintro e w' ⟨rfl, rfl⟩) | (go_at_call 63; refine Calls.mono (show Calls _ _ _ _ _ from putRules_nil p _ (N5 28 (by decide) (by decide))) ?_; rintro e w' ⟨rfl, rfl⟩) | (go_at_call 64; refine Calls.mono (show Calls _ _ _ _ _ from putParts_nil p _ (N5 34 (by decide) (by decide))) ?_; rintro e w' ⟨rfl, rfl⟩))
  have kp := putAttrs_any p (b 4) b B vs1.length vs1 (ls1.map List.length) w5 H5 rfl A1.1 S1 n1 L1 A1.2 s1
  refine Calls.mono (show Calls _ _ _ _ _ from kp) ?_
  rintro e w6 ⟨rfl, gk, row⟩
  clear kp
  have T := A1.2.ty S1 rfl
  have hG : ∀ x, Blks vs1 x → ∃ t, Ty w5 x t ∧ t = 179 := fun x hx => ⟨_, (T x hx).1, rfl⟩
  have H6 := H5.kg gk (fun hk => absurd ((T p hk).1.eq H5.ty) (by decide))
  have N6 := nils_of H6 hn
  have B6 : Below B w w6 := B5.trans (gk.below (fun x hx => (T x hx).2.2) (Nat.le_trans hB B5.size))
  have A1' : KB 179 44 2 mkAttrs B B w6 (b 4) vs1.length vs1 (ls1.map List.length) vs1.length := ⟨gk.own A1.1 (fun x hx hg => absurd ((T x hg).1.eq (own_ty A1.1 hx)) (by decide)), row⟩
  replace A1 := A1'
  clear A1'
  replace A0 := A0.kg gk (fun x hx => by obtain ⟨t, h1, rfl⟩ := hG x hx; exact ⟨_, h1, by decide, by decide⟩)
  replace A2 := A2.kg gk (fun x hx => by obtain ⟨t, h1, rfl⟩ := hG x hx; exact ⟨_, h1, by decide, by decide⟩)
  replace A3 := A3.kg gk (fun x hx => by obtain ⟨t, h1, rfl⟩ := hG x hx; exact ⟨_, h1, by decide, by decide⟩)
  clear T hG gk row H5 N5 B5
  go_wp2_with (first | (go_at_call 66; refine Calls.mono (show Calls _ _ _ _ _ from putFilters_nil p _ (N6 6 (by decide) (by decide))) ?_; rintro e w' ⟨rfl, rfl⟩))
  have kp := putMods_any p (b 8) b B vs2.length vs2 (ls2.map List.length) w6 H6 rfl A2.1 S2 n2 L2 A2.2 s2
  refine Calls.mono (show Calls _ _ _ _ _ from kp) ?_
  rintro e w7 ⟨rfl, gk, row⟩
  clear kp
  have T := A2.2.ty S2 rfl
  have hG : ∀ x, Blks vs2 x → ∃ t, Ty w6 x t ∧ t = 182 := fun x hx => ⟨_, (T x hx).1, rfl⟩
  have H7 := H6.kg gk (fun hk => absurd ((T p hk).1.eq H6.ty) (by decide))
  have N7 := nils_of H7 hn
  have B7 : Below B w w7 := B6.trans (gk.below (fun x hx => (T x hx).2.2) (Nat.le_trans hB B6.size))
  have A2' : KB 182 45 3 mkMods B B w7 (b 8) vs2.length vs2 (ls2.map List.length) vs2.length := ⟨gk.own A2.1 (fun x hx hg => absurd ((T x hg).1.eq (own_ty A2.1 hx)) (by decide)), row⟩
  replace A2 := A2'
  clear A2'
  replace A0 := A0.kg gk (fun x hx => by obtain ⟨t, h1, rfl⟩ := hG x hx; exact ⟨_, h1, by decide, by decide⟩)
  replace A1 := A1.kg gk (fun x hx => by obtain ⟨t, h1, rfl⟩ := hG x hx; exact ⟨_, h1, by decide, by decide⟩)
  replace A3 := A3.kg gk (fun x hx => by obtain ⟨t, h1, rfl⟩ := hG x hx; exact ⟨_, h1, by decide, by decide⟩)
  clear T hG gk row H6 N6 B6
  go_wp2_with (first | (go_at_call 68; refine Calls.mono (show Calls _ _ _ _ _ from putElements_nil p _ (N7 14 (by decide) (by decide))) ?_; rintro e w' ⟨rfl, rfl⟩) | (go_at_call 69; refine Calls.mono (show Calls _ _ _ _ _ from putRdns_nil p _ (N7 18 (by decide) (by decide))) ?_; rintro e w' ⟨rfl, rfl⟩))
  have kp := putTexts_any p (b 0) b B vs0.length vs0 (ls0.map List.length) w7 H7 rfl A0.1 S0 n0 L0 A0.2 s0
  refine Calls.mono (show Calls _ _ _ _ _ from kp) ?_
  rintro e w8 ⟨rfl, gk, row⟩
  clear kp
  have T := A0.2.ty S0 rfl
  have hG : ∀ x, Blks vs0 x → ∃ t, Ty w7 x t ∧ t = 9 := fun x hx => ⟨_, (T x hx).1, rfl⟩
  have H8 := H7.kg gk (fun hk => absurd ((T p hk).1.eq H7.ty) (by decide))
  have N8 := nils_of H8 hn
  have B8 : Below B w w8 := B7.trans (gk.below (fun x hx => (T x hx).2.2) (Nat.le_trans hB B7.size))
  have A0' : KB 9 58 1 mkTexts B B w8 (b 0) vs0.length vs0 (ls0.map List.length) vs0.length := ⟨gk.own A0.1 (fun x hx hg => absurd ((T x hg).1.eq (own_ty A0.1 hx)) (by decide)), row⟩
  replace A0 := A0'
  clear A0'
  replace A1 := A1.kg gk (fun x hx => by obtain ⟨t, h1, rfl⟩ := hG x hx; exact ⟨_, h1, by decide, by decide⟩)
  replace A2 := A2.kg gk (fun x hx => by obtain ⟨t, h1, rfl⟩ := hG x hx; exact ⟨_, h1, by decide, by decide⟩)
  replace A3 := A3.kg gk (fun x hx => by obtain ⟨t, h1, rfl⟩ := hG x hx; exact ⟨_, h1, by decide, by decide⟩)
  clear T hG gk row H7 N7 B7
  go_wp2_with (first | (go_at_call 71; refine Calls.mono (show Calls _ _ _ _ _ from putInts_nil p _ (N8 2 (by decide) (by decide))) ?_; rintro e w' ⟨rfl, rfl⟩) | (go_at_call 72; refine Calls.mono (show Calls _ _ _ _ _ from putControls_nil p _ (N8 10 (by decide) (by decide))) ?_; rintro e w' ⟨rfl, rfl⟩) | (go_at_call 73; refine Calls.mono (show Calls _ _ _ _ _ from putAvas_nil p _ (N8 16 (by decide) (by decide))) ?_; rintro e w' ⟨rfl, rfl⟩) | (go_at_call 74; refine Calls.mono (show Calls _ _ _ _ _ from putPlans_nil p _ (N8 20 (by decide) (by decide))) ?_; rintro e w' ⟨rfl, rfl⟩) | (go_at_call 75; refine Calls.mono (show Calls _ _ _ _ _ from putPairs_nil p _ (N8 26 (by decide) (by decide))) ?_; rintro e w' ⟨rfl, rfl⟩) | (go_at_call 76; refine Calls.mono (show Calls _ _ _ _ _ from putGrants_nil p _ (N8 30 (by decide) (by decide))) ?_; rintro e w' ⟨rfl, rfl⟩) | (go_at_call 77; refine Calls.mono (show Calls _ _ _ _ _ from putIndexes_nil p _ (N8 32 (by decide) (by decide))) ?_; rintro e w' ⟨rfl, rfl⟩))
  go_wp2_with fail
  have kp := growTexts_any p (b 0) b B vs0.length vs0 (ls0.map List.length) w8 H8 rfl A0.1 (Nat.le_trans hB B8.size) S0 n0 L0 A0.2 s0
  refine Calls.mono (show Calls _ _ _ _ _ from kp) ?_
  rintro e w9 ⟨o0, rfl, hgr⟩
  obtain ⟨gk, row, gs0, oo, og⟩ := hgr.marks S0
  have G0 : KB 9 58 1 mkTexts _ B w9 o0 vs0.length gs0 ((ls0.map List.length).map (· + 72)) vs0.length := ⟨oo, og⟩
  clear kp hgr oo og
  have T := A0.2.ty S0 rfl
  have hG : ∀ x, Blks vs0 x → ∃ t, Ty w8 x t ∧ t = 9 := fun x hx => ⟨_, (T x hx).1, rfl⟩
  have H9 := H8.kg gk (fun hk => absurd ((T p hk).1.eq H8.ty) (by decide))
  have N9 := nils_of H9 hn
  have B9 : Below B w w9 := B8.trans (gk.below (fun x hx => (T x hx).2.2) (Nat.le_trans hB B8.size))
  have A0' : KB 9 58 1 mkTexts B B w9 (b 0) vs0.length vs0 (ls0.map List.length) vs0.length := ⟨gk.own A0.1 (fun x hx hg => absurd ((T x hg).1.eq (own_ty A0.1 hx)) (by decide)), row⟩
  replace A0 := A0'
  clear A0'
  replace A1 := A1.kg gk (fun x hx => by obtain ⟨t, h1, rfl⟩ := hG x hx; exact ⟨_, h1, by decide, by decide⟩)
  replace A2 := A2.kg gk (fun x hx => by obtain ⟨t, h1, rfl⟩ := hG x hx; exact ⟨_, h1, by decide, by decide⟩)
  replace A3 := A3.kg gk (fun x hx => by obtain ⟨t, h1, rfl⟩ := hG x hx; exact ⟨_, h1, by decide, by decide⟩)
  clear T hG gk row H8 N8 B8
  go_wp2_with (first | (go_at_call 79; refine Calls.mono (show Calls _ _ _ _ _ from growInts_nil p _ (N9 2 (by decide) (by decide))) ?_; rintro e w' ⟨rfl, rfl⟩))
  have kp := growAttrs_any p (b 4) b B vs1.length vs1 (ls1.map List.length) w9 H9 rfl A1.1 (Nat.le_trans hB B9.size) S1 n1 L1 A1.2 s1
  refine Calls.mono (show Calls _ _ _ _ _ from kp) ?_
  rintro e w10 ⟨o1, rfl, hgr⟩
  obtain ⟨gk, row, gs1, oo, og⟩ := hgr.marks S1
  have G1 : KB 179 44 2 mkAttrs _ B w10 o1 vs1.length gs1 ((ls1.map List.length).map (· + 72)) vs1.length := ⟨oo, og⟩
  clear kp hgr oo og
  have T := A1.2.ty S1 rfl
  have hG : ∀ x, Blks vs1 x → ∃ t, Ty w9 x t ∧ t = 179 := fun x hx => ⟨_, (T x hx).1, rfl⟩
  have H10 := H9.kg gk (fun hk => absurd ((T p hk).1.eq H9.ty) (by decide))
  have N10 := nils_of H10 hn
  have B10 : Below B w w10 := B9.trans (gk.below (fun x hx => (T x hx).2.2) (Nat.le_trans hB B9.size))
  have A1' : KB 179 44 2 mkAttrs B B w10 (b 4) vs1.length vs1 (ls1.map List.length) vs1.length := ⟨gk.own A1.1 (fun x hx hg => absurd ((T x hg).1.eq (own_ty A1.1 hx)) (by decide)), row⟩
  replace A1 := A1'
  clear A1'
  replace A0 := A0.kg gk (fun x hx => by obtain ⟨t, h1, rfl⟩ := hG x hx; exact ⟨_, h1, by decide, by decide⟩)
  replace A2 := A2.kg gk (fun x hx => by obtain ⟨t, h1, rfl⟩ := hG x hx; exact ⟨_, h1, by decide, by decide⟩)
  replace A3 := A3.kg gk (fun x hx => by obtain ⟨t, h1, rfl⟩ := hG x hx; exact ⟨_, h1, by decide, by decide⟩)
  replace G0 := G0.kg gk (fun x hx => by obtain ⟨t, h1, rfl⟩ := hG x hx; exact ⟨_, h1, by decide, by decide⟩)
  clear T hG gk row H9 N9 B9
  go_wp2_with (first | (go_at_call 81; refine Calls.mono (show Calls _ _ _ _ _ from growFilters_nil p _ (N10 6 (by decide) (by decide))) ?_; rintro e w' ⟨rfl, rfl⟩))
  have kp := growMods_any p (b 8) b B vs2.length vs2 (ls2.map List.length) w10 H10 rfl A2.1 (Nat.le_trans hB B10.size) S2 n2 L2 A2.2 s2
  refine Calls.mono (show Calls _ _ _ _ _ from kp) ?_
  rintro e w11 ⟨o2, rfl, hgr⟩
  obtain ⟨gk, row, gs2, oo, og⟩ := hgr.marks S2
  have G2 : KB 182 45 3 mkMods _ B w11 o2 vs2.length gs2 ((ls2.map List.length).map (· + 72)) vs2.length := ⟨oo, og⟩
  clear kp hgr oo og
  have T := A2.2.ty S2 rfl
  have hG : ∀ x, Blks vs2 x → ∃ t, Ty w10 x t ∧ t = 182 := fun x hx => ⟨_, (T x hx).1, rfl⟩
  have H11 := H10.kg gk (fun hk => absurd ((T p hk).1.eq H10.ty) (by decide))
  have N11 := nils_of H11 hn
  have B11 : Below B w w11 := B10.trans (gk.below (fun x hx => (T x hx).2.2) (Nat.le_trans hB B10.size))
  have A2' : KB 182 45 3 mkMods B B w11 (b 8) vs2.length vs2 (ls2.map List.length) vs2.length := ⟨gk.own A2.1 (fun x hx hg => absurd ((T x hg).1.eq (own_ty A2.1 hx)) (by decide)), row⟩
  replace A2 := A2'
  clear A2'
  replace A0 := A0.kg gk (fun x hx => by obtain ⟨t, h1, rfl⟩ := hG x hx; exact ⟨_, h1, by decide, by decide⟩)
  replace A1 := A1.kg gk (fun x hx => by obtain ⟨t, h1, rfl⟩ := hG x hx; exact ⟨_, h1, by decide, by decide⟩)
  replace A3 := A3.kg gk (fun x hx => by obtain ⟨t, h1, rfl⟩ := hG x hx; exact ⟨_, h1, by decide, by decide⟩)
  replace G0 := G0.kg gk (fun x hx => by obtain ⟨t, h1, rfl⟩ := hG x hx; exact ⟨_, h1, by decide, by decide⟩)
  replace G1 := G1.kg gk (fun x hx => by obtain ⟨t, h1, rfl⟩ := hG x hx; exact ⟨_, h1, by decide, by decide⟩)
  clear T hG gk row H10 N10 B10
  go_wp2_with (first | (go_at_call 83; refine Calls.mono (show Calls _ _ _ _ _ from growControls_nil p _ (N11 10 (by decide) (by decide))) ?_; rintro e w' ⟨rfl, rfl⟩) | (go_at_call 84; refine Calls.mono (show Calls _ _ _ _ _ from growMessages_nil p _ (N11 12 (by decide) (by decide))) ?_; rintro e w' ⟨rfl, rfl⟩) | (go_at_call 85; refine Calls.mono (show Calls _ _ _ _ _ from growElements_nil p _ (N11 14 (by decide) (by decide))) ?_; rintro e w' ⟨rfl, rfl⟩) | (go_at_call 86; refine Calls.mono (show Calls _ _ _ _ _ from growAvas_nil p _ (N11 16 (by decide) (by decide))) ?_; rintro e w' ⟨rfl, rfl⟩) | (go_at_call 87; refine Calls.mono (show Calls _ _ _ _ _ from growRdns_nil p _ (N11 18 (by decide) (by decide))) ?_; rintro e w' ⟨rfl, rfl⟩) | (go_at_call 88; refine Calls.mono (show Calls _ _ _ _ _ from growPlans_nil p _ (N11 20 (by decide) (by decide))) ?_; rintro e w' ⟨rfl, rfl⟩) | (go_at_call 89; refine Calls.mono (show Calls _ _ _ _ _ from growSteps_nil p _ (N11 22 (by decide) (by decide))) ?_; rintro e w' ⟨rfl, rfl⟩))
  have kp := growChanges_any p (b 24) b B vs3.length vs3 (ls3.map List.length) w11 H11 rfl A3.1 (Nat.le_trans hB B11.size) S3 n3 L3 A3.2 s3
  refine Calls.mono (show Calls _ _ _ _ _ from kp) ?_
  rintro e w12 ⟨o3, rfl, hgr⟩
  obtain ⟨gk, row, gs3, oo, og⟩ := hgr.marks S3
  have G3 : KB 47 51 10 mkChanges _ B w12 o3 vs3.length gs3 ((ls3.map List.length).map (· + 72)) vs3.length := ⟨oo, og⟩
  clear kp hgr oo og
  have T := A3.2.ty S3 rfl
  have hG : ∀ x, Blks vs3 x → ∃ t, Ty w11 x t ∧ t = 47 := fun x hx => ⟨_, (T x hx).1, rfl⟩
  have H12 := H11.kg gk (fun hk => absurd ((T p hk).1.eq H11.ty) (by decide))
  have N12 := nils_of H12 hn
  have B12 : Below B w w12 := B11.trans (gk.below (fun x hx => (T x hx).2.2) (Nat.le_trans hB B11.size))
  have A3' : KB 47 51 10 mkChanges B B w12 (b 24) vs3.length vs3 (ls3.map List.length) vs3.length := ⟨gk.own A3.1 (fun x hx hg => absurd ((T x hg).1.eq (own_ty A3.1 hx)) (by decide)), row⟩
  replace A3 := A3'
  clear A3'
  replace A0 := A0.kg gk (fun x hx => by obtain ⟨t, h1, rfl⟩ := hG x hx; exact ⟨_, h1, by decide, by decide⟩)
  replace A1 := A1.kg gk (fun x hx => by obtain ⟨t, h1, rfl⟩ := hG x hx; exact ⟨_, h1, by decide, by decide⟩)
  replace A2 := A2.kg gk (fun x hx => by obtain ⟨t, h1, rfl⟩ := hG x hx; exact ⟨_, h1, by decide, by decide⟩)
  replace G0 := G0.kg gk (fun x hx => by obtain ⟨t, h1, rfl⟩ := hG x hx; exact ⟨_, h1, by decide, by decide⟩)
  replace G1 := G1.kg gk (fun x hx => by obtain ⟨t, h1, rfl⟩ := hG x hx; exact ⟨_, h1, by decide, by decide⟩)
  replace G2 := G2.kg gk (fun x hx => by obtain ⟨t, h1, rfl⟩ := hG x hx; exact ⟨_, h1, by decide, by decide⟩)
  clear T hG gk row H11 N11 B11
  go_wp2_with (first | (go_at_call 91; refine Calls.mono (show Calls _ _ _ _ _ from growPairs_nil p _ (N12 26 (by decide) (by decide))) ?_; rintro e w' ⟨rfl, rfl⟩) | (go_at_call 92; refine Calls.mono (show Calls _ _ _ _ _ from growRules_nil p _ (N12 28 (by decide) (by decide))) ?_; rintro e w' ⟨rfl, rfl⟩) | (go_at_call 93; refine Calls.mono (show Calls _ _ _ _ _ from growGrants_nil p _ (N12 30 (by decide) (by decide))) ?_; rintro e w' ⟨rfl, rfl⟩) | (go_at_call 94; refine Calls.mono (show Calls _ _ _ _ _ from growIndexes_nil p _ (N12 32 (by decide) (by decide))) ?_; rintro e w' ⟨rfl, rfl⟩) | (go_at_call 95; refine Calls.mono (show Calls _ _ _ _ _ from growParts_nil p _ (N12 34 (by decide) (by decide))) ?_; rintro e w' ⟨rfl, rfl⟩))
  obtain ⟨x0, y0, hxe0⟩ := gl_of G0.1
  obtain ⟨z0, v0, hze0⟩ := gl_of A0.1
  subst hxe0
  obtain ⟨x1, y1, hxe1⟩ := gl_of G1.1
  obtain ⟨z1, v1, hze1⟩ := gl_of A1.1
  subst hxe1
  obtain ⟨x2, y2, hxe2⟩ := gl_of G2.1
  obtain ⟨z2, v2, hze2⟩ := gl_of A2.1
  subst hxe2
  obtain ⟨x3, y3, hxe3⟩ := gl_of G3.1
  obtain ⟨z3, v3, hze3⟩ := gl_of A3.1
  subst hxe3
  have q0 := H12.cell 0 (by decide)
  rw [hze0] at q0
  have q1 := H12.cell 4 (by decide)
  rw [hze1] at q1
  have q2 := H12.cell 8 (by decide)
  rw [hze2] at q2
  have q3 := H12.cell 24 (by decide)
  rw [hze3] at q3
  have Z2 := N12 2 (by decide) (by decide)
  have Z6 := N12 6 (by decide) (by decide)
  have Z10 := N12 10 (by decide) (by decide)
  have Z12 := N12 12 (by decide) (by decide)
  have Z14 := N12 14 (by decide) (by decide)
  have Z16 := N12 16 (by decide) (by decide)
  have Z18 := N12 18 (by decide) (by decide)
  have Z20 := N12 20 (by decide) (by decide)
  have Z22 := N12 22 (by decide) (by decide)
  have Z26 := N12 26 (by decide) (by decide)
  have Z28 := N12 28 (by decide) (by decide)
  have Z30 := N12 30 (by decide) (by decide)
  have Z32 := N12 32 (by decide) (by decide)
  have Z34 := N12 34 (by decide) (by decide)
  go_wp2_with fail
  have km := markedTexts_any _ _ B _ gs0 ((ls0.map List.length).map (· + 72)) w12 G0.1 (by rw [List.length_map]; exact S0) n0 L0' G0.2
  refine Calls.mono (show Calls _ _ _ _ _ from km) ?_
  rintro e w13 ⟨rfl, hbn⟩
  clear q0 q1 q2 q3 Z2 Z6 Z10 Z12 Z14 Z16 Z18 Z20 Z22 Z26 Z28 Z30 Z32 Z34
  have H13 := H12.below hbn
  have N13 := nils_of H13 hn
  have B13 : Below B w w13 := B12.trans (hbn.mono (Nat.le_trans hB B12.size))
  replace A0 := A0.below hbn
  replace G0 := G0.below hbn
  replace A1 := A1.below hbn
  replace G1 := G1.below hbn
  replace A2 := A2.below hbn
  replace G2 := G2.below hbn
  replace A3 := A3.below hbn
  replace G3 := G3.below hbn
  clear km hbn H12 N12 B12
  have q0 := H13.cell 0 (by decide)
  rw [hze0] at q0
  have q1 := H13.cell 4 (by decide)
  rw [hze1] at q1
  have q2 := H13.cell 8 (by decide)
  rw [hze2] at q2
  have q3 := H13.cell 24 (by decide)
  rw [hze3] at q3
  have Z2 := N13 2 (by decide) (by decide)
  have Z6 := N13 6 (by decide) (by decide)
  have Z10 := N13 10 (by decide) (by decide)
  have Z12 := N13 12 (by decide) (by decide)
  have Z14 := N13 14 (by decide) (by decide)
  have Z16 := N13 16 (by decide) (by decide)
  have Z18 := N13 18 (by decide) (by decide)
  have Z20 := N13 20 (by decide) (by decide)
  have Z22 := N13 22 (by decide) (by decide)
  have Z26 := N13 26 (by decide) (by decide)
  have Z28 := N13 28 (by decide) (by decide)
  have Z30 := N13 30 (by decide) (by decide)
  have Z32 := N13 32 (by decide) (by decide)
  have Z34 := N13 34 (by decide) (by decide)
  go_wp2_with fail
  have a0' := A0.1
  rw [hze0] at a0'
  have km := markedTexts_any _ _ B _ vs0 (ls0.map List.length) w13 a0' S0 n0 (fun m hm => Nat.le_trans (L0 m hm) (by decide)) A0.2
  clear a0'
  refine Calls.mono (show Calls _ _ _ _ _ from km) ?_
  rintro e w14 ⟨rfl, hbn⟩
  clear q0 q1 q2 q3 Z2 Z6 Z10 Z12 Z14 Z16 Z18 Z20 Z22 Z26 Z28 Z30 Z32 Z34
  have H14 := H13.below hbn
  have N14 := nils_of H14 hn
  have B14 : Below B w w14 := B13.trans (hbn.mono (Nat.le_trans hB B13.size))
  replace A0 := A0.below hbn
  replace G0 := G0.below hbn
  replace A1 := A1.below hbn
  replace G1 := G1.below hbn
  replace A2 := A2.below hbn
  replace G2 := G2.below hbn
  replace A3 := A3.below hbn
  replace G3 := G3.below hbn
  clear km hbn H13 N13 B13
  have q0 := H14.cell 0 (by decide)
  rw [hze0] at q0
  have q1 := H14.cell 4 (by decide)
  rw [hze1] at q1
  have q2 := H14.cell 8 (by decide)
  rw [hze2] at q2
  have q3 := H14.cell 24 (by decide)
  rw [hze3] at q3
  have Z2 := N14 2 (by decide) (by decide)
  have Z6 := N14 6 (by decide) (by decide)
  have Z10 := N14 10 (by decide) (by decide)
  have Z12 := N14 12 (by decide) (by decide)
  have Z14 := N14 14 (by decide) (by decide)
  have Z16 := N14 16 (by decide) (by decide)
  have Z18 := N14 18 (by decide) (by decide)
  have Z20 := N14 20 (by decide) (by decide)
  have Z22 := N14 22 (by decide) (by decide)
  have Z26 := N14 26 (by decide) (by decide)
  have Z28 := N14 28 (by decide) (by decide)
  have Z30 := N14 30 (by decide) (by decide)
  have Z32 := N14 32 (by decide) (by decide)
  have Z34 := N14 34 (by decide) (by decide)
  go_wp2_with (first | (go_at_call 97; refine Calls.mono (show Calls _ _ _ _ _ from markedInts_nil _) ?_; rintro e w' ⟨rfl, rfl⟩))
  have km := markedAttrs_any _ _ B _ gs1 ((ls1.map List.length).map (· + 72)) w14 G1.1 (by rw [List.length_map]; exact S1) n1 L1' G1.2
  refine Calls.mono (show Calls _ _ _ _ _ from km) ?_
  rintro e w15 ⟨rfl, hbn⟩
  clear q0 q1 q2 q3 Z2 Z6 Z10 Z12 Z14 Z16 Z18 Z20 Z22 Z26 Z28 Z30 Z32 Z34
  have H15 := H14.below hbn
  have N15 := nils_of H15 hn
  have B15 : Below B w w15 := B14.trans (hbn.mono (Nat.le_trans hB B14.size))
  replace A0 := A0.below hbn
  replace G0 := G0.below hbn
  replace A1 := A1.below hbn
  replace G1 := G1.below hbn
  replace A2 := A2.below hbn
  replace G2 := G2.below hbn
  replace A3 := A3.below hbn
  replace G3 := G3.below hbn
  clear km hbn H14 N14 B14
  have q0 := H15.cell 0 (by decide)
  rw [hze0] at q0
  have q1 := H15.cell 4 (by decide)
  rw [hze1] at q1
  have q2 := H15.cell 8 (by decide)
  rw [hze2] at q2
  have q3 := H15.cell 24 (by decide)
  rw [hze3] at q3
  have Z2 := N15 2 (by decide) (by decide)
  have Z6 := N15 6 (by decide) (by decide)
  have Z10 := N15 10 (by decide) (by decide)
  have Z12 := N15 12 (by decide) (by decide)
  have Z14 := N15 14 (by decide) (by decide)
  have Z16 := N15 16 (by decide) (by decide)
  have Z18 := N15 18 (by decide) (by decide)
  have Z20 := N15 20 (by decide) (by decide)
  have Z22 := N15 22 (by decide) (by decide)
  have Z26 := N15 26 (by decide) (by decide)
  have Z28 := N15 28 (by decide) (by decide)
  have Z30 := N15 30 (by decide) (by decide)
  have Z32 := N15 32 (by decide) (by decide)
  have Z34 := N15 34 (by decide) (by decide)
  go_wp2_with fail
  have a1' := A1.1
  rw [hze1] at a1'
  have km := markedAttrs_any _ _ B _ vs1 (ls1.map List.length) w15 a1' S1 n1 (fun m hm => Nat.le_trans (L1 m hm) (by decide)) A1.2
  clear a1'
  refine Calls.mono (show Calls _ _ _ _ _ from km) ?_
  rintro e w16 ⟨rfl, hbn⟩
  clear q0 q1 q2 q3 Z2 Z6 Z10 Z12 Z14 Z16 Z18 Z20 Z22 Z26 Z28 Z30 Z32 Z34
  have H16 := H15.below hbn
  have N16 := nils_of H16 hn
  have B16 : Below B w w16 := B15.trans (hbn.mono (Nat.le_trans hB B15.size))
  replace A0 := A0.below hbn
  replace G0 := G0.below hbn
  replace A1 := A1.below hbn
  replace G1 := G1.below hbn
  replace A2 := A2.below hbn
  replace G2 := G2.below hbn
  replace A3 := A3.below hbn
  replace G3 := G3.below hbn
  clear km hbn H15 N15 B15
  have q0 := H16.cell 0 (by decide)
  rw [hze0] at q0
  have q1 := H16.cell 4 (by decide)
  rw [hze1] at q1
  have q2 := H16.cell 8 (by decide)
  rw [hze2] at q2
  have q3 := H16.cell 24 (by decide)
  rw [hze3] at q3
  have Z2 := N16 2 (by decide) (by decide)
  have Z6 := N16 6 (by decide) (by decide)
  have Z10 := N16 10 (by decide) (by decide)
  have Z12 := N16 12 (by decide) (by decide)
  have Z14 := N16 14 (by decide) (by decide)
  have Z16 := N16 16 (by decide) (by decide)
  have Z18 := N16 18 (by decide) (by decide)
  have Z20 := N16 20 (by decide) (by decide)
  have Z22 := N16 22 (by decide) (by decide)
  have Z26 := N16 26 (by decide) (by decide)
  have Z28 := N16 28 (by decide) (by decide)
  have Z30 := N16 30 (by decide) (by decide)
  have Z32 := N16 32 (by decide) (by decide)
  have Z34 := N16 34 (by decide) (by decide)
  go_wp2_with (first | (go_at_call 99; refine Calls.mono (show Calls _ _ _ _ _ from markedFilters_nil _) ?_; rintro e w' ⟨rfl, rfl⟩))
  have km := markedMods_any _ _ B _ gs2 ((ls2.map List.length).map (· + 72)) w16 G2.1 (by rw [List.length_map]; exact S2) n2 L2' G2.2
  refine Calls.mono (show Calls _ _ _ _ _ from km) ?_
  rintro e w17 ⟨rfl, hbn⟩
  clear q0 q1 q2 q3 Z2 Z6 Z10 Z12 Z14 Z16 Z18 Z20 Z22 Z26 Z28 Z30 Z32 Z34
  have H17 := H16.below hbn
  have N17 := nils_of H17 hn
  have B17 : Below B w w17 := B16.trans (hbn.mono (Nat.le_trans hB B16.size))
  replace A0 := A0.below hbn
  replace G0 := G0.below hbn
  replace A1 := A1.below hbn
  replace G1 := G1.below hbn
  replace A2 := A2.below hbn
  replace G2 := G2.below hbn
  replace A3 := A3.below hbn
  replace G3 := G3.below hbn
  clear km hbn H16 N16 B16
  have q0 := H17.cell 0 (by decide)
  rw [hze0] at q0
  have q1 := H17.cell 4 (by decide)
  rw [hze1] at q1
  have q2 := H17.cell 8 (by decide)
  rw [hze2] at q2
  have q3 := H17.cell 24 (by decide)
  rw [hze3] at q3
  have Z2 := N17 2 (by decide) (by decide)
  have Z6 := N17 6 (by decide) (by decide)
  have Z10 := N17 10 (by decide) (by decide)
  have Z12 := N17 12 (by decide) (by decide)
  have Z14 := N17 14 (by decide) (by decide)
  have Z16 := N17 16 (by decide) (by decide)
  have Z18 := N17 18 (by decide) (by decide)
  have Z20 := N17 20 (by decide) (by decide)
  have Z22 := N17 22 (by decide) (by decide)
  have Z26 := N17 26 (by decide) (by decide)
  have Z28 := N17 28 (by decide) (by decide)
  have Z30 := N17 30 (by decide) (by decide)
  have Z32 := N17 32 (by decide) (by decide)
  have Z34 := N17 34 (by decide) (by decide)
  go_wp2_with fail
  have a2' := A2.1
  rw [hze2] at a2'
  have km := markedMods_any _ _ B _ vs2 (ls2.map List.length) w17 a2' S2 n2 (fun m hm => Nat.le_trans (L2 m hm) (by decide)) A2.2
  clear a2'
  refine Calls.mono (show Calls _ _ _ _ _ from km) ?_
  rintro e w18 ⟨rfl, hbn⟩
  clear q0 q1 q2 q3 Z2 Z6 Z10 Z12 Z14 Z16 Z18 Z20 Z22 Z26 Z28 Z30 Z32 Z34
  have H18 := H17.below hbn
  have N18 := nils_of H18 hn
  have B18 : Below B w w18 := B17.trans (hbn.mono (Nat.le_trans hB B17.size))
  replace A0 := A0.below hbn
  replace G0 := G0.below hbn
  replace A1 := A1.below hbn
  replace G1 := G1.below hbn
  replace A2 := A2.below hbn
  replace G2 := G2.below hbn
  replace A3 := A3.below hbn
  replace G3 := G3.below hbn
  clear km hbn H17 N17 B17
  have q0 := H18.cell 0 (by decide)
  rw [hze0] at q0
  have q1 := H18.cell 4 (by decide)
  rw [hze1] at q1
  have q2 := H18.cell 8 (by decide)
  rw [hze2] at q2
  have q3 := H18.cell 24 (by decide)
  rw [hze3] at q3
  have Z2 := N18 2 (by decide) (by decide)
  have Z6 := N18 6 (by decide) (by decide)
  have Z10 := N18 10 (by decide) (by decide)
  have Z12 := N18 12 (by decide) (by decide)
  have Z14 := N18 14 (by decide) (by decide)
  have Z16 := N18 16 (by decide) (by decide)
  have Z18 := N18 18 (by decide) (by decide)
  have Z20 := N18 20 (by decide) (by decide)
  have Z22 := N18 22 (by decide) (by decide)
  have Z26 := N18 26 (by decide) (by decide)
  have Z28 := N18 28 (by decide) (by decide)
  have Z30 := N18 30 (by decide) (by decide)
  have Z32 := N18 32 (by decide) (by decide)
  have Z34 := N18 34 (by decide) (by decide)
  go_wp2_with (first | (go_at_call 101; refine Calls.mono (show Calls _ _ _ _ _ from markedControls_nil _) ?_; rintro e w' ⟨rfl, rfl⟩) | (go_at_call 102; refine Calls.mono (show Calls _ _ _ _ _ from markedMessages_nil _) ?_; rintro e w' ⟨rfl, rfl⟩) | (go_at_call 103; refine Calls.mono (show Calls _ _ _ _ _ from markedElements_nil _) ?_; rintro e w' ⟨rfl, rfl⟩) | (go_at_call 104; refine Calls.mono (show Calls _ _ _ _ _ from markedAvas_nil _) ?_; rintro e w' ⟨rfl, rfl⟩) | (go_at_call 105; refine Calls.mono (show Calls _ _ _ _ _ from markedRdns_nil _) ?_; rintro e w' ⟨rfl, rfl⟩) | (go_at_call 106; refine Calls.mono (show Calls _ _ _ _ _ from markedPlans_nil _) ?_; rintro e w' ⟨rfl, rfl⟩) | (go_at_call 107; refine Calls.mono (show Calls _ _ _ _ _ from markedSteps_nil _) ?_; rintro e w' ⟨rfl, rfl⟩))
  have km := markedChanges_any _ _ B _ gs3 ((ls3.map List.length).map (· + 72)) w18 G3.1 (by rw [List.length_map]; exact S3) n3 L3' G3.2
  refine Calls.mono (show Calls _ _ _ _ _ from km) ?_
  rintro e w19 ⟨rfl, hbn⟩
  clear q0 q1 q2 q3 Z2 Z6 Z10 Z12 Z14 Z16 Z18 Z20 Z22 Z26 Z28 Z30 Z32 Z34
  have H19 := H18.below hbn
  have N19 := nils_of H19 hn
  have B19 : Below B w w19 := B18.trans (hbn.mono (Nat.le_trans hB B18.size))
  replace A0 := A0.below hbn
  replace G0 := G0.below hbn
  replace A1 := A1.below hbn
  replace G1 := G1.below hbn
  replace A2 := A2.below hbn
  replace G2 := G2.below hbn
  replace A3 := A3.below hbn
  replace G3 := G3.below hbn
  clear km hbn H18 N18 B18
  have q0 := H19.cell 0 (by decide)
  rw [hze0] at q0
  have q1 := H19.cell 4 (by decide)
  rw [hze1] at q1
  have q2 := H19.cell 8 (by decide)
  rw [hze2] at q2
  have q3 := H19.cell 24 (by decide)
  rw [hze3] at q3
  have Z2 := N19 2 (by decide) (by decide)
  have Z6 := N19 6 (by decide) (by decide)
  have Z10 := N19 10 (by decide) (by decide)
  have Z12 := N19 12 (by decide) (by decide)
  have Z14 := N19 14 (by decide) (by decide)
  have Z16 := N19 16 (by decide) (by decide)
  have Z18 := N19 18 (by decide) (by decide)
  have Z20 := N19 20 (by decide) (by decide)
  have Z22 := N19 22 (by decide) (by decide)
  have Z26 := N19 26 (by decide) (by decide)
  have Z28 := N19 28 (by decide) (by decide)
  have Z30 := N19 30 (by decide) (by decide)
  have Z32 := N19 32 (by decide) (by decide)
  have Z34 := N19 34 (by decide) (by decide)
  go_wp2_with fail
  have a3' := A3.1
  rw [hze3] at a3'
  have km := markedChanges_any _ _ B _ vs3 (ls3.map List.length) w19 a3' S3 n3 (fun m hm => Nat.le_trans (L3 m hm) (by decide)) A3.2
  clear a3'
  refine Calls.mono (show Calls _ _ _ _ _ from km) ?_
  rintro e w20 ⟨rfl, hbn⟩
  clear q0 q1 q2 q3 Z2 Z6 Z10 Z12 Z14 Z16 Z18 Z20 Z22 Z26 Z28 Z30 Z32 Z34
  have H20 := H19.below hbn
  have N20 := nils_of H20 hn
  have B20 : Below B w w20 := B19.trans (hbn.mono (Nat.le_trans hB B19.size))
  replace A0 := A0.below hbn
  replace G0 := G0.below hbn
  replace A1 := A1.below hbn
  replace G1 := G1.below hbn
  replace A2 := A2.below hbn
  replace G2 := G2.below hbn
  replace A3 := A3.below hbn
  replace G3 := G3.below hbn
  clear km hbn H19 N19 B19
  have q0 := H20.cell 0 (by decide)
  rw [hze0] at q0
  have q1 := H20.cell 4 (by decide)
  rw [hze1] at q1
  have q2 := H20.cell 8 (by decide)
  rw [hze2] at q2
  have q3 := H20.cell 24 (by decide)
  rw [hze3] at q3
  have Z2 := N20 2 (by decide) (by decide)
  have Z6 := N20 6 (by decide) (by decide)
  have Z10 := N20 10 (by decide) (by decide)
  have Z12 := N20 12 (by decide) (by decide)
  have Z14 := N20 14 (by decide) (by decide)
  have Z16 := N20 16 (by decide) (by decide)
  have Z18 := N20 18 (by decide) (by decide)
  have Z20 := N20 20 (by decide) (by decide)
  have Z22 := N20 22 (by decide) (by decide)
  have Z26 := N20 26 (by decide) (by decide)
  have Z28 := N20 28 (by decide) (by decide)
  have Z30 := N20 30 (by decide) (by decide)
  have Z32 := N20 32 (by decide) (by decide)
  have Z34 := N20 34 (by decide) (by decide)
  go_wp2_with (first | (go_at_call 109; refine Calls.mono (show Calls _ _ _ _ _ from markedPairs_nil _) ?_; rintro e w' ⟨rfl, rfl⟩) | (go_at_call 110; refine Calls.mono (show Calls _ _ _ _ _ from markedRules_nil _) ?_; rintro e w' ⟨rfl, rfl⟩) | (go_at_call 111; refine Calls.mono (show Calls _ _ _ _ _ from markedGrants_nil _) ?_; rintro e w' ⟨rfl, rfl⟩) | (go_at_call 112; refine Calls.mono (show Calls _ _ _ _ _ from markedIndexes_nil _) ?_; rintro e w' ⟨rfl, rfl⟩) | (go_at_call 113; refine Calls.mono (show Calls _ _ _ _ _ from markedParts_nil _) ?_; rintro e w' ⟨rfl, rfl⟩))
  go_ret
  exact ⟨rfl, B20⟩
def aliveR : Chg := ⟨[50, 48, 50, 52, 48, 49, 48, 49, 48, 48, 48, 48, 48, 48, 90], [], [100, 99, 61, 122], 1, [], [], [], [], false, false⟩
theorem aliveR_text : printC aliveR = ([116, 105, 109, 101, 58, 32, 50, 48, 50, 52, 48, 49, 48, 49, 48, 48, 48, 48, 48, 48, 90, 10, 119, 104, 111, 58, 58, 32, 10, 100, 110, 58, 32, 100, 99, 61, 122, 10, 99, 104, 97, 110, 103, 101, 116, 121, 112, 101, 58, 32, 100, 101, 108, 101, 116, 101, 10, 10], 0) := by decide +kernel
theorem aliveR_small : Small aliveR := ⟨by decide +kernel, by decide +kernel, by decide +kernel, fun x hx => (by cases hx), fun x hx => (by cases hx), fun _ => of_decide_eq_true (by decide +kernel)⟩
theorem alive_b64 : b64 [97, 98] = [89, 87, 73, 61] := by decide +kernel
theorem attrs_none (w : World) : AttrsAt w (.slice none 0 0) [] := ⟨none, 0, rfl, Nat.le_refl _, fun h => absurd rfl h⟩
theorem mods_none (w : World) : ModsAt w (.slice none 0 0) [] := ⟨none, 0, rfl, Nat.le_refl _, fun h => absurd rfl h⟩
theorem alive_any (w : World) (hE : Env w) : Calls Tryz.prog 6 #[] w fun e w' => e = .returned (.bool true) ∧ Below w.heap.size w w' := by
  have k1 := Print_any aliveR _ _ w (attrs_none w) (mods_none w) hE aliveR_small
  rw [aliveR_text] at k1
  simp only [chgA, aliveR] at k1
  go_enter Tryz.func6, Tryz.ntmps6
  go_wp2_with (first | (go_at_call 29; refine Calls.mono (show Calls _ _ _ _ _ from k1) ?_; rintro e w1 ⟨rfl, hb1⟩; have k2 := Base64_any [97, 98] w1 (by decide); rw [alive_b64] at k2) | (go_at_call 30; refine Calls.mono (show Calls _ _ _ _ _ from k2) ?_; rintro e w2 ⟨rfl, hb2⟩))
  go_ret
  exact ⟨rfl, below_ext hb1 hb2⟩
theorem built_bookF : Tryz.prog.built 43 [] = some (bkF fun _ => .slice none 0 0) := by kernel_rfl
theorem wpList_build_bookF {ops : Array Oper} {rest : List Oper} {o : Oper} {a : Act} {w : World} {Q : Exit → Act → World → Prop} (hg : o.guard = none) (ho : o.op = .build 43 #[])
    (h : wpList Tryz.prog ops Q rest (a.put o.dst (.agg (bkF fun _ => .slice none 0 0))) w) : wpList Tryz.prog ops Q (o :: rest) a w :=
  wpList_build hg _ _ ho (by rw [show (Array.map _ #[] : Array (Nat × Value)).toList = [] from by simp, built_bookF]; rfl) (by rw [show (Array.map _ #[] : Array (Nat × Value)).toList = [] from by simp, built_bookF]; exact h)
theorem own_one (w : World) (c : Chg) (vA vM : Value) (B : Nat) (hB : B ≤ w.heap.size) : (w.alloc (.cells (chgA c vA vM) 47)).ownsRow B 47 10 (.slice (some ⟨w.heap.size, 0, none⟩) 1 1) 1 (flatC [c] [(vA, vM)]) :=
  ⟨rfl, .inr ⟨w.heap.size, 1, chgA c vA vM, rfl, hB, alloc_at _ _ _ rfl, by omega, by unfold maxLen; omega, rfl, by simp [flatC]; rfl⟩⟩
theorem chgs_one (w : World) (c : Chg) (vA vM : Value) (M H : Nat) (h : RecH M H w vA vM c) (hM : M ≤ H) (hH : H ≤ w.heap.size) : ChgsO M (w.alloc (.cells (chgA c vA vM) 47)) (.slice (some ⟨w.heap.size, 0, none⟩) 1 1) [c] [(vA, vM)] (fun j => if j = 0 then M else H) := by
  refine ⟨own_one w c vA vM M (by omega), rfl, by simp, fun j hj => ?_, ?_, fun j d p h1 h2 => ?_⟩
  · have : j = 0 := by simpa using hj
    subst this; simpa using hM
  · have : (w.alloc (.cells (chgA c vA vM) 47)).heap.size = w.heap.size + 1 := by simp
    simp only [List.length_singleton]
    rw [if_neg (by omega), this]; omega
  · have : j = 0 := by have := (List.getElem?_eq_some_iff.1 h1).1; simpa using this
    subst this
    simp only [List.getElem?_cons_zero, Option.some.injEq] at h1 h2
    subst h1 h2
    simpa using h.below ((Below.refl _ _).alloc (Nat.le_refl _) _)
theorem ChgsO.kd {B N : Nat} {w w' : World} {v : Value} {cs : List Chg} {us : List (Value × Value)} {h : Nat → Nat} (hc : ChgsO N w v cs us h) (hk : Kd B w w') : ChgsO N w' v cs us h :=
  ⟨hk.own hc.1 (by decide), hc.2.1, hc.2.2.1, hc.2.2.2.1, Nat.le_trans hc.2.2.2.2.1 hk.size, fun j c p h1 h2 => (hc.2.2.2.2.2 j c p h1 h2).kept (fun k t ht hr => hk.same k t ht (by rcases hr with rfl | rfl | rfl <;> decide))⟩
theorem LdifParses_any (text : List UInt8) (w : World) (hl : text.length ≤ 140737488355328) (hE : Env w) :
    Calls Tryz.prog 3 #[.string ⟨text.toArray⟩] w fun e w' => e = .returned (.bool true) ∧ Below w.heap.size w w' := by
  have HE := Lib.hid hE
  by_cases hbig : 70000 < text.length
  · have q0 : decide ((70000 : Int) < (text.length : Int)) = true := decide_eq_true (by omega)
    have k1 := alive_any w hE
    clear hE
    go_enter Tryz.func3, Tryz.ntmps3
    go_wp2_with fail
    refine Calls.mono (show Calls _ _ _ _ _ from k1) ?_
    rintro e w1 ⟨rfl, hb1⟩
    go_wp2_with fail
    go_ret
    exact ⟨rfl, hb1⟩
  · have q0 : decide ((70000 : Int) < (text.length : Int)) = false := decide_eq_false (by omega)
    have hI := BkI.new (B := w.heap.size) w (Nat.le_refl _)
    have b1a := (Below.refl w.heap.size w).alloc (Nat.le_refl _) (.cells (bkF fun _ => .slice none 0 0) 43)
    clear hE
    go_enter Tryz.func3, Tryz.ntmps3
    go_wp2_with (refine wpList_build_bookF rfl rfl ?_)
    go_loopw [4] (fun q wr => ∃ k : Nat, q = .int .i64 (k : Int) ∧ k ≤ 2 ∧ BkI w.heap.size (fun b => b < wr.heap.size) wr w.heap.size ∧ Kd w.heap.size w wr) (fun q _ => 2 - (RowKit.intOf q).toNat)
    case atStart => exact ⟨0, rfl, by omega, hI.mono (fun _ h => h.elim), Kd.of_below b1a⟩
    case round =>
      obtain ⟨k, rfl, hk, hbk, hkd⟩ := hrel
      clear hI
      have hBw : Below w.heap.size w wr := hkd.below (Nat.le_refl _)
      have hBr : w.heap.size ≤ wr.heap.size := hkd.size
      by_cases hkn : k < 2
      · have i3 : decide ((k : Int) < 2) = true := decide_eq_true (by omega)
        have k1 := Parse_any text wr (by omega) (HE.out.below hBw)
        obtain ⟨okc, lenc⟩ := pC_ok text
        obtain ⟨okl, lenl⟩ := aC_ok text
        obtain ⟨c, ce, hpc⟩ : ∃ c n, pC text = (c, n) := ⟨_, _, rfl⟩
        obtain ⟨cl, le, hac⟩ : ∃ c n, aC text = (c, n) := ⟨_, _, rfl⟩
        rw [hpc] at okc lenc
        rw [hac] at okl lenl
        simp only at okc lenc okl lenl
        have HPC := Lib.hid hpc
        have HAC := Lib.hid hac
        have HOK := Lib.hid (And.intro okc okl)
        have HLEN := Lib.hid (And.intro lenc lenl)
        clear hpc hac okc okl lenc lenl
        go_wp2_with fail
        refine Calls.mono (show Calls _ _ _ _ _ from k1) ?_
        rintro e w1 hp1
        obtain ⟨hb1, vA, vM, rfl, hrec⟩ := post_one hp1
        rw [HPC.out] at hrec ⊢
        simp only at hrec ⊢
        clear k1 hp1
        have hs1 := hb1.size
        obtain ⟨hatA, hatM⟩ := hrec.at
        obtain ⟨aA, cA, rfl, _⟩ := hatA
        obtain ⟨aM, cM, rfl, _⟩ := hatM
        have hbW : Below w1.heap.size w1 (w1.alloc (.cells (chgA c (.slice aA c.attrs.length cA) (.slice aM c.mods.length cM)) 47)) := (Below.refl _ _).alloc (Nat.le_refl _) _
        have hG1 : (w1.alloc (.cells (chgA c (.slice aA c.attrs.length cA) (.slice aM c.mods.length cM)) 47)).heap[w1.heap.size]? = some (.cells (chgA c (.slice aA c.attrs.length cA) (.slice aM c.mods.length cM)) 47 (0, 0)) := alloc_at _ _ _ rfl
        have hR1 := hrec.h.below hbW
        have k2 := RParse_any text (w1.alloc (.cells (chgA c (.slice aA c.attrs.length cA) (.slice aM c.mods.length cM)) 47)) (by omega)
        have hsW : (w1.alloc (.cells (chgA c (.slice aA c.attrs.length cA) (.slice aM c.mods.length cM)) 47)).heap.size = w1.heap.size + 1 := by simp
        have hbe1 : Below wr.heap.size wr (w1.alloc (.cells (chgA c (.slice aA c.attrs.length cA) (.slice aM c.mods.length cM)) 47)) := below_ext hb1 hbW
        clear hbW hrec hb1
        unfold chgA at k2 hbe1 hsW hR1 hG1 ⊢
        go_wp2_with fail
        refine Calls.mono (show Calls _ _ _ _ _ from k2) ?_
        rintro e w2 hp2
        obtain ⟨hb2, uA, uM, rfl, hua, hum⟩ := rpp_one hp2
        rw [HPC.out] at hua hum ⊢
        simp only at hua hum ⊢
        clear k2 hp2
        have hs2 := hb2.size
        rw [hsW] at hs2
        have hG2 := (hb2.block w1.heap.size (by rw [hsW]; omega)).trans hG1
        have hR2 := hR1.below hb2
        have hbe2 := below_ext hbe1 hb2
        clear hG1 hR1 hbe1 hb2 hsW
        have hua' := hua.at
        have hum' := hum.at
        obtain ⟨bA, dA, rfl⟩ := hua.sl
        obtain ⟨bM, dM, rfl⟩ := hum.sl
        have hbW : Below w2.heap.size w2 (w2.alloc (.cells (chgA c (.slice bA c.attrs.length dA) (.slice bM c.mods.length dM)) 47)) := (Below.refl _ _).alloc (Nat.le_refl _) _
        have hD3 : (w2.alloc (.cells (chgA c (.slice bA c.attrs.length dA) (.slice bM c.mods.length dM)) 47)).heap[w2.heap.size]? = some (.cells (chgA c (.slice bA c.attrs.length dA) (.slice bM c.mods.length dM)) 47 (0, 0)) := alloc_at _ _ _ rfl
        have hG3 := (hbW.block w1.heap.size (by omega)).trans hG2
        have hR3 := hR2.below hbW
        have hu3 := hua'.below hbW
        have hv3 := hum'.below hbW
        have hbe3 : Below wr.heap.size wr (w2.alloc (.cells (chgA c (.slice bA c.attrs.length dA) (.slice bM c.mods.length dM)) 47)) := below_ext hbe2 hbW
        have hsW : (w2.alloc (.cells (chgA c (.slice bA c.attrs.length dA) (.slice bM c.mods.length dM)) 47)).heap.size = w2.heap.size + 1 := by simp
        have k3 := All_any text (w2.alloc (.cells (chgA c (.slice bA c.attrs.length dA) (.slice bM c.mods.length dM)) 47)) (by omega) (HE.out.below (hBw.trans (hbe3.mono hBr)))
        clear hbW hua hum hua' hum' hG2 hR2 hbe2
        unfold chgA at k3 hbe3 hsW hR3 hG3 hD3 hu3 hv3 ⊢
        go_wp2_with fail
        refine Calls.mono (show Calls _ _ _ _ _ from k3) ?_
        rintro e w3 hp3
        obtain ⟨hb3, vl, usl, hh, rfl, hcl⟩ := post_all hp3
        rw [HAC.out] at hcl ⊢
        simp only at hcl ⊢
        rw [hsW] at hcl
        clear k3 hp3
        have hs3 := hb3.size
        rw [hsW] at hs3
        have hG4 := (hb3.block w1.heap.size (by rw [hsW]; omega)).trans hG3
        have hD4 := (hb3.block w2.heap.size (by rw [hsW]; omega)).trans hD3
        have hR4 := hR3.below hb3
        have hu4 := hu3.below hb3
        have hv4 := hv3.below hb3
        have hbe4 := below_ext hbe3 hb3
        clear hG3 hD3 hR3 hu3 hv3 hbe3 hb3 hsW
        have k4 := RAll_any text w3 (by omega)
        obtain ⟨al, nl, rfl⟩ := gl_of hcl.1
        go_wp2_with fail
        refine Calls.mono (show Calls _ _ _ _ _ from k4) ?_
        rintro e w4 hp4
        obtain ⟨hb4, um, rfl, hco⟩ := hp4
        rw [HAC.out] at hco ⊢
        simp only at hco ⊢
        clear k4
        have hs4 := hb4.size
        have hG5 := (hb4.block w1.heap.size (by omega)).trans hG4
        have hD5 := (hb4.block w2.heap.size (by omega)).trans hD4
        have hR5 := hR4.below hb4
        have hu5 := hu4.below hb4
        have hv5 := hv4.below hb4
        have hbe5 := below_ext hbe4 hb4
        have hcl5 := hcl.below hb4
        have hlt : ∀ k, Value.ownBlock (.slice al cl.length nl) = some k → w2.heap.size + 1 ≤ k ∧ k < w3.heap.size := fun k hk => hcl.1.lt k hk
        have hHl : hh cl.length ≤ w3.heap.size := hcl.2.2.2.2.1
        have hco' := hco.at
        obtain ⟨am, nm, rfl⟩ := hco.sl
        clear hG4 hD4 hR4 hu4 hv4 hbe4 hb4 hcl hco
        have k5 := Same_any c c _ _ _ _ w4 hR5.o.at.1 hR5.o.at.2 hu5 hv5 HLEN.out.1 HLEN.out.1
        rw [(sameC_iff c c).2 rfl] at k5
        have k6 := fun w5 (hb5 : Below w4.heap.size w4 w5) => SameChanges_any _ _ cl cl w5 (hcl5.at.below hb5) (hco'.below hb5) (by have := HOK.out.2.1; omega) (by have := HOK.out.2.1; omega) HLEN.out.2 HLEN.out.2
        rw [sameL_self] at k6
        unfold chgA at k5
        obtain ⟨⟨c0, c1, c2, c3, c4, c5, c6, c7, c8, c9⟩, _⟩ := ten_cells hG5
        obtain ⟨⟨n0, n1, n2, n3, n4, n5, n6, n7, n8, n9⟩, _⟩ := ten_cells hD5
        clear hco'
        go_wp2_with (go_at_call 11; refine Calls.mono (show Calls _ _ _ _ _ from k5) ?_; rintro e w5 ⟨rfl, hb5⟩; have k6' := k6 w5 hb5)
        go_wp2_with (first
          | (go_at_call 12
             refine Calls.mono (show Calls _ _ _ _ _ from k6') ?_
             rintro e w6 ⟨rfl, hb6⟩
             have hb46 := below_ext hb5 hb6
             have hs6 := hb46.size
             have hG6 := (hb46.block w1.heap.size (by omega)).trans hG5
             have hR6 := hR5.below hb46
             have hbe6 := below_ext hbe5 hb46
             have hcl6 := hcl5.below hb46
             have hbW : Below w6.heap.size w6 (w6.alloc (.cells (chgA c (.slice aA c.attrs.length cA) (.slice aM c.mods.length cM)) 47)) := (Below.refl _ _).alloc (Nat.le_refl _) _
             have hsW : (w6.alloc (.cells (chgA c (.slice aA c.attrs.length cA) (.slice aM c.mods.length cM)) 47)).heap.size = w6.heap.size + 1 := by simp
             have hbW6 := below_ext hbe6 hbW
             have k7 := Change_bk w.heap.size w.heap.size wr.heap.size (fun b => b < wr.heap.size) (.slice (some ⟨w6.heap.size, 0, none⟩) 1 1) _ _ [c] (w6.alloc (.cells (chgA c (.slice aA c.attrs.length cA) (.slice aM c.mods.length cM)) 47)) (hbk.below hbW6) (chgs_one w6 c _ _ wr.heap.size w1.heap.size hR6 hs1 (by omega)) hBr (fun k h1 _ _ h => by omega) (fun k hk h => by have : w6.heap.size = k := Option.some.inj hk; omega) HOK.out.1 (by rw [hsW]; omega)
             have hcl7 := hcl6.below hbW
             obtain ⟨⟨c0, c1, c2, c3, c4, c5, c6, c7, c8, c9⟩, _⟩ := ten_cells hG6
             clear hb5 hb6 hb46 hG5 hR5 hR6 hbe5 hbe6 hcl5 hcl6 hbk hu5 hv5 hD5 k5 k6
             unfold chgA at k7 hsW hbW6 hcl7)
          | (go_at_call 13
             refine Calls.mono (show Calls _ _ _ _ _ from k7) ?_
             rintro e w7 ⟨rfl, hI7, hk7⟩
             clear k7
             have h7 := hk7.size
             rw [hsW] at h7
             have hI8 := hI7.mono (F' := fun b => b < w1.heap.size ∨ b = w6.heap.size) (fun b hb => by
               rcases hb with hb | ⟨_, hb, _⟩ | hb
               · exact .inl (by omega)
               · exact .inl hb
               · exact .inr (Option.some.inj hb).symm)
             have hcl8 := hcl7.kd hk7
             have k8 := Change_bk w.heap.size w.heap.size (w2.heap.size + 1) _ (.slice al cl.length nl) usl hh cl w7 hI8 hcl8 (by omega) (fun k h1 h2 _ h => by rcases h with h | h <;> omega) (fun k hk h => by have := hlt k hk; rcases h with h | h <;> omega) HOK.out.2 (by omega)
             have hkd7 := (hkd.trans (Kd.of_below hbW6)).trans hk7
             clear hI7 hI8 hcl7 hcl8 hk7 hbW6 hkd)
          | (go_at_call 13
             refine Calls.mono (show Calls _ _ _ _ _ from k8) ?_
             rintro e w8 ⟨rfl, hI8, hk8⟩
             clear k8
             have h8 := hk8.size
             have hkd8 := hkd7.trans hk8
             have hI9 := hI8.mono (F' := fun b => b < w8.heap.size) (fun b hb => by
               rcases hb with (hb | hb) | ⟨_, hb, _⟩ | hb
               · omega
               · omega
               · omega
               · have := hlt b hb; omega)
             clear hI8 hk8 hkd7))
        go_roundw
        case rel => exact ⟨k + 1, by go_num, by omega, hI9, hkd8⟩
        case measure => simp [RowKit.intOf]; omega
      · obtain rfl : k = 2 := by omega
        have i3 : decide (((2 : Nat) : Int) < 2) = false := by decide
        have k7 := alive_any wr (HE.out.below hBw)
        have k8 := fun w9 (hb : Below wr.heap.size wr w9) => Apart_any w.heap.size w.heap.size _ w9 (hbk.below hb) (by have := hb.size; omega)
        clear hbk
        go_wp2_with (first | (go_at_call 6; refine Calls.mono (show Calls _ _ _ _ _ from k7) ?_; rintro e w9 ⟨rfl, hb9⟩; have k8' := k8 w9 hb9) | (go_at_call 14; refine Calls.mono (show Calls _ _ _ _ _ from k8') ?_; rintro e w10 ⟨rfl, hb10⟩))
        go_ret
        exact ⟨rfl, (hBw.trans (hb9.mono hBr)).trans hb10⟩
end Go.Proofs.YtegigcneimjimaaGreatDoor
