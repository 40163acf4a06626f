/- chancerybook: the marks, and Avas and Rdns. -/
import Derived.Test.YtegigcneimjimaaGreatDoorBdH
import Derived.Deep.RegionHeld3
import Derived.Test.YtegigcneimjimaaGreatDoorRngT
namespace Go.Proofs.YtegigcneimjimaaGreatDoor
open Go.RowKit Go.Lib

set_option maxRecDepth 100000 in
set_option maxHeartbeats 4000000 in
theorem markedAvas_any (a : Value) (B n : Nat) (vs : List Value) (ns : List Nat) (w : World) (ha : w.ownsRow B 65 1 a n vs) (hn : ns.length = n) (hn2 : n ≤ 250)
    (hv : ∀ (i m : Nat), ns[i]? = some m → m ≤ 950000 ∧ ∃ v, vs[i]? = some v ∧ AvsAt w v (prs (mkN i 0 m))) :
    Calls Tryz.prog 104 #[a] w fun e w' => e = .returned (.bool true) ∧ Below w.heap.size w w' := by
  have HV := Lib.hid hv
  have HN := Lib.hid hn
  clear hv hn
  obtain ⟨aa, ca, hae⟩ := sl_of ha
  subst hae
  go_enter Tryz.func104, Tryz.ntmps104
  go_wp2_with fail
  go_loopw [3] (fun i wr => ∃ k : Nat, i = .int .i64 (k : Int) ∧ k ≤ n ∧ Below w.heap.size w wr) (fun i _ => n - (RowKit.intOf i).toNat)
  case atStart => exact ⟨0, rfl, by omega, Below.refl _ _⟩
  case round =>
    obtain ⟨k, rfl, hk, hbe⟩ := hrel
    by_cases hkl : k < n
    · obtain ⟨m, hmk⟩ : ∃ m, ns[k]? = some m := ⟨ns[k]'(by have := HN.out; omega), List.getElem?_eq_getElem _⟩
      obtain ⟨hml, v, hvk, hva⟩ := HV.out k m hmk
      have ha1 := ownBelow ha hbe
      have hva1 := hva.below hbe
      obtain ⟨ga, ca', hae, hca⟩ := own_at ha1 hvk
      cases hae
      obtain ⟨av, cv, hve, _, _⟩ := id hva1
      rw [prs_length, mkN_length] at hve
      subst hve
      have i1 : (k : Int) < (n : Int) := by omega
      have i3 : decide ((k : Int) < (n : Int)) = true := decide_eq_true i1
      have km := markAvas_any k 0 m wr.drew (by omega) (by omega)
      have hbe1 : Below w.heap.size w wr.drew := hbe.drew
      have hva2 : AvsAt wr.drew (.slice av m cv) (prs (mkN k 0 m)) := hva1
      have hca2 : wr.drew.cell? ⟨ga, k, none⟩ = some (.slice av m cv) := hca
      have HVA := Lib.hid hva2
      clear hva hva1 ha1 hvk hmk hbe hva2
      go_wp2_with fail
      go_region_held3 (fun w' => w'.cell? ⟨ga, k, none⟩ = some (.slice av m cv))
        (first | go_keep | exact hca2 | exact s0)
        (first
          | (go_at_call 190; refine Calls.mono (show Calls _ _ _ _ _ from km) ?_; rintro e w4 ⟨⟨v4, rfl, hv4⟩, hb4⟩; have s0 : w4.cell? ⟨ga, k, none⟩ = some (.slice av m cv) := (hb4.cell (lt_of_cell hca2)).trans hca2; have hvb := HVA.out.below hb4; have ho4 := own_avs (r := prs (mkN k 0 m)) (by rw [prs_length, mkN_length]; exact hv4); have ks := SAvas_any _ _ _ _ w4 hvb ho4 (by rw [prs_length, mkN_length]; omega) (by rw [prs_length, mkN_length]; omega); rw [decide_eq_true rfl] at ks; have hbe4 := below_ext hbe1 hb4)
          | (go_at_call 168; refine Calls.mono (show Calls _ _ _ _ _ from ks) ?_; rintro e w5 ⟨rfl, nq5, rfl⟩))
      go_wp2_with fail
      exact ⟨⟨k + 1, by go_num, by omega, Below.drewN hbe4 _⟩, by simp [RowKit.intOf]; omega⟩
    · obtain rfl : k = n := by omega
      have i3 : decide ((k : Int) < (k : Int)) = false := decide_eq_false (by omega)
      go_wp2_with fail
      go_ret
      exact ⟨rfl, hbe⟩
theorem rds_one {l : List (List UInt8)} : ∀ x ∈ rds l, x.length ≤ 1000000 := by
  intro x hx
  simp only [rds, List.mem_map] at hx
  obtain ⟨_, _, rfl⟩ := hx
  simp
set_option maxRecDepth 100000 in
set_option maxHeartbeats 4000000 in
theorem markedRdns_any (a : Value) (B n : Nat) (vs : List Value) (ns : List Nat) (w : World) (ha : w.ownsRow B 59 1 a n vs) (hn : ns.length = n) (hn2 : n ≤ 250)
    (hv : ∀ (i m : Nat), ns[i]? = some m → m ≤ 950000 ∧ ∃ v, vs[i]? = some v ∧ DnAt w v (rds (mkN i 0 m))) :
    Calls Tryz.prog 105 #[a] w fun e w' => e = .returned (.bool true) ∧ Below w.heap.size w w' := by
  have HV := Lib.hid hv
  have HN := Lib.hid hn
  clear hv hn
  obtain ⟨aa, ca, hae⟩ := sl_of ha
  subst hae
  go_enter Tryz.func105, Tryz.ntmps105
  go_wp2_with fail
  go_loopw [3] (fun i wr => ∃ k : Nat, i = .int .i64 (k : Int) ∧ k ≤ n ∧ Below w.heap.size w wr) (fun i _ => n - (RowKit.intOf i).toNat)
  case atStart => exact ⟨0, rfl, by omega, Below.refl _ _⟩
  case round =>
    obtain ⟨k, rfl, hk, hbe⟩ := hrel
    by_cases hkl : k < n
    · obtain ⟨m, hmk⟩ : ∃ m, ns[k]? = some m := ⟨ns[k]'(by have := HN.out; omega), List.getElem?_eq_getElem _⟩
      obtain ⟨hml, v, hvk, hva⟩ := HV.out k m hmk
      have ha1 := ownBelow ha hbe
      have hva1 := hva.below hbe
      obtain ⟨ga, ca', hae, hca⟩ := own_at ha1 hvk
      cases hae
      obtain ⟨av, cv, hve, _, _⟩ := id hva1
      rw [rds_length, mkN_length] at hve
      subst hve
      have i1 : (k : Int) < (n : Int) := by omega
      have i3 : decide ((k : Int) < (n : Int)) = true := decide_eq_true i1
      have km := markRdns_any k 0 m wr.drew (by omega) (by omega)
      have hbe1 : Below w.heap.size w wr.drew := hbe.drew
      have hva2 : DnAt wr.drew (.slice av m cv) (rds (mkN k 0 m)) := hva1
      have hca2 : wr.drew.cell? ⟨ga, k, none⟩ = some (.slice av m cv) := hca
      have HVA := Lib.hid hva2
      clear hva hva1 ha1 hvk hmk hbe hva2
      go_wp2_with fail
      go_region_held3 (fun w' => w'.cell? ⟨ga, k, none⟩ = some (.slice av m cv))
        (first | go_keep | exact hca2 | exact s0)
        (first
          | (go_at_call 186; refine Calls.mono (show Calls _ _ _ _ _ from km) ?_; rintro e w4 ⟨⟨v4, rfl, hv4⟩, hb4⟩; have s0 : w4.cell? ⟨ga, k, none⟩ = some (.slice av m cv) := (hb4.cell (lt_of_cell hca2)).trans hca2; have hvb := HVA.out.below hb4; have ho4 := hv4.at; obtain ⟨a4, c4, he4, _, _⟩ := id ho4; rw [rds_length, mkN_length] at he4; subst he4; have ks := SRdns_any _ _ _ _ w4 hvb ho4 (by rw [rds_length, mkN_length]; omega) (by rw [rds_length, mkN_length]; omega) rds_one rds_one; rw [decide_eq_true rfl] at ks; have hbe4 := below_ext hbe1 hb4)
          | (go_at_call 169; refine Calls.mono (show Calls _ _ _ _ _ from ks) ?_; rintro e w5 ⟨rfl, nq5, rfl⟩))
      go_wp2_with fail
      exact ⟨⟨k + 1, by go_num, by omega, Below.drewN hbe4 _⟩, by simp [RowKit.intOf]; omega⟩
    · obtain rfl : k = n := by omega
      have i3 : decide ((k : Int) < (k : Int)) = false := decide_eq_false (by omega)
      go_wp2_with fail
      go_ret
      exact ⟨rfl, hbe⟩
end Go.Proofs.YtegigcneimjimaaGreatDoor
namespace Go.Proofs.YtegigcneimjimaaGreatDoor
open Go.RowKit Go.Lib

theorem BkAt.set16 {w : World} {p : Nat} {a b c d : Value} (h : BkAt w p a b c d) (x : Value) : BkAt (w.setCell ⟨p, 16, none⟩ x) p x b c d := by
  have := heap_setCell_same w p 16 _ _ x h
  exact this
theorem BkAt.set17 {w : World} {p : Nat} {a b c d : Value} (h : BkAt w p a b c d) (x : Value) : BkAt (w.setCell ⟨p, 17, none⟩ x) p a x c d := by
  have := heap_setCell_same w p 17 _ _ x h
  exact this
theorem BkAt.set18 {w : World} {p : Nat} {a b c d : Value} (h : BkAt w p a b c d) (x : Value) : BkAt (w.setCell ⟨p, 18, none⟩ x) p a b x d := by
  have := heap_setCell_same w p 18 _ _ x h
  exact this
theorem BkAt.set19 {w : World} {p : Nat} {a b c d : Value} (h : BkAt w p a b c d) (x : Value) : BkAt (w.setCell ⟨p, 19, none⟩ x) p a b c x := by
  have := heap_setCell_same w p 19 _ _ x h
  exact this
theorem BkAt.grown {w w' : World} {p B e size n : Nat} {a b c d l : Value} {xs : List Value} (h : BkAt w p a b c d) (hl : w.ownsRow B e size l n xs) (he : e ≠ 43) (hg : w.grownBy w' l.ownBlock) : BkAt w' p a b c d :=
  (hg.block p h.lt (fun e' => he ((own_ty hl e'.symm).eq h.ty))).trans h
theorem own_setp {w : World} {p B e size n i : Nat} {a b c d l x : Value} {xs : List Value} (h : BkAt w p a b c d) (hl : w.ownsRow B e size l n xs) (he : e ≠ 43) : (w.setCell ⟨p, i, none⟩ x).ownsRow B e size l n xs :=
  own_oneG hl (fun e' => he ((own_ty hl e').eq h.ty))
def AvPost (w : World) (p : Nat) (a b c d v : Value) (B n : Nat) (vs us : List Value) (l : List Av) (w' : World) : Prop :=
  ∃ (a' b' : Value) (vs' us' : List Value), BkAt w' p a' b' c d ∧ w'.ownsRow B 65 1 a' vs'.length vs' ∧ w'.ownsRow B 65 1 b' us'.length us' ∧ (∀ k, a'.ownBlock = some k → b'.ownBlock ≠ some k) ∧
    KG (fun k => k = p ∨ a.ownBlock = some k ∨ b.ownBlock = some k) w w' ∧ (n < 250 ∧ vs' = vs ++ [v] ∧ (∃ u, us' = us ++ [u] ∧ w'.ownsRow B 146 2 u l.length (aV l)) ∨ n = 250 ∧ vs' = vs ∧ us' = us)
set_option maxRecDepth 100000 in
set_option maxHeartbeats 4000000 in
theorem Avas_any (p : Nat) (a b c d v : Value) (B n : Nat) (vs us : List Value) (l : List Av) (w : World) (h : BkAt w p a b c d) (ha : w.ownsRow B 65 1 a n vs) (hb : w.ownsRow B 65 1 b n us) (Bv : Nat) (hv : w.ownsRow Bv 146 2 v l.length (aV l)) (hl : l.length ≤ 1000000)
    (hB : B ≤ w.heap.size) (hne : ∀ k, a.ownBlock = some k → b.ownBlock ≠ some k) (hn : n ≤ 250) :
    Calls Tryz.prog 21 #[.pointer (some ⟨p, 0, none⟩), v] w fun e w' => e = .returned (.tuple #[]) ∧ AvPost w p a b c d v B n vs us l w' := by
  obtain ⟨j0, hj0, hy0, hy1, hy2⟩ := info_parts (show (Tryz.prog.info? 65).map (fun i => (i.zero, i.size, i.bytes)) = some (some (.slice none 0 0), 1, 24) by kernel_rfl)
  obtain ⟨aa, ca, hae⟩ := sl_of ha
  subst hae
  obtain ⟨q0, _, _, _⟩ := h.cells
  by_cases hlt : n < 250
  · have i3 : decide ((n : Int) < 250) = true := decide_eq_true (by omega)
    obtain ⟨av, cv, hve⟩ := sl_of hv
    subst hve
    have HNE := Lib.hid hne
    clear hne
    have hbA : Below w.heap.size w (w.alloc (.cells #[.slice av l.length cv] 65)) := (Below.refl _ _).alloc (Nat.le_refl _) _
    have hA1 := ownBelow ha hbA
    have hB1 := ownBelow hb hbA
    have hv1 := ownBelow hv hbA
    have h1 := h.below hbA
    go_enter Tryz.func21, Tryz.ntmps21
    go_wp2_with (at_builtin; refine wpList_append_own_at _ rfl (.tmp 14) (.tmp 16) 32 rfl B 65 j0 (.slice none 0 0) 1 24 Tryz.underlying32 hj0 hy0 hy1 hy2 rfl (by decide) (.slice aa n ca) n vs rfl hA1 ⟨w.heap.size, 0, none⟩ 1 1 [.slice av l.length cv] rfl rfl (cell_one_new _ _ _) ?h2 ?h3 ?h4 ?h5 ?_)
    case h2 => intro u hu; simp at hu; subst hu; rfl
    case h3 => unfold maxLen; omega
    case h4 => omega
    case h5 => simp; omega
    intro a' w7 ho7 hg7 _ hat7
    have h7 := h1.grown hA1 (by decide) hg7
    have hB7 : w7.ownsRow B 65 1 b n us := by
      refine hB1.kept hg7 ?_
      cases hk : b.ownBlock with
      | none => exact .inl rfl
      | some k => exact .inr (fun e => HNE.out k e.symm hk)
    have hv7 := own_far hA1 hv1 (by decide) hg7
    obtain ⟨q0', _, _, _⟩ := h7.cells
    have f0 := h7.frozen 16
    have hk7 : KG (fun k => k = p ∨ (Value.slice aa n ca).ownBlock = some k ∨ b.ownBlock = some k) w w7 := (KG.of_below hbA).grown hg7 (fun k hk => .inl (.inr (.inl hk)))
    have hsz7 := hk7.size
    obtain ⟨ga, cap', hae'⟩ : ∃ g c, a' = .slice (some ⟨g, 0, none⟩) (n + 1) c := by
      rcases ho7.2 with ⟨_, h0⟩ | ⟨g, c, _, h0, _⟩
      · omega
      · exact ⟨g, c, h0⟩
    subst hae'
    have hne7 : ∀ k, (Value.slice (some ⟨ga, 0, none⟩) (n + 1) cap').ownBlock = some k → b.ownBlock ≠ some k := by
      intro k hk e
      rcases hat7 with h | h
      · exact HNE.out k (by rw [← h]; exact hk) e
      · rw [h] at hk
        have := (hb.lt k e).2
        have h3 : (w.alloc (.cells #[.slice av l.length cv] 65)).heap.size = w.heap.size + 1 := by simp
        have h4 := Option.some.inj hk
        omega
    clear q0 hat7
    go_wp2_with fail
    have h8 := h7.set16 (.slice (some ⟨ga, 0, none⟩) (n + 1) cap')
    have ho8 := own_setp (i := 16) (x := .slice (some ⟨ga, 0, none⟩) (n + 1) cap') h7 ho7 (by decide)
    have hB8 := own_setp (i := 16) (x := .slice (some ⟨ga, 0, none⟩) (n + 1) cap') h7 hB7 (by decide)
    have hv8 := own_setp (i := 16) (x := .slice (some ⟨ga, 0, none⟩) (n + 1) cap') h7 hv7 (by decide)
    have hk8 := hk7.set ⟨p, 16, none⟩ (.slice (some ⟨ga, 0, none⟩) (n + 1) cap') (.inl (.inl rfl))
    clear h7 ho7 hB7 hk7 q0' f0 hg7 h1 hA1 hB1 hsz7
    generalize w7.setCell ⟨p, 16, none⟩ (.slice (some ⟨ga, 0, none⟩) (n + 1) cap') = w8 at h8 ho8 hB8 hv8 hk8 ⊢
    refine region_anyT (S := fun w' => w'.cell? ⟨p, 17, none⟩ = some b) (st := 11) (by kernel_rfl) ?_
    have h9 : BkAt w8.drew p (.slice (some ⟨ga, 0, none⟩) (n + 1) cap') b c d := h8
    have ho9 : w8.drew.ownsRow B 65 1 (.slice (some ⟨ga, 0, none⟩) (n + 1) cap') (n + 1) (vs ++ [.slice av l.length cv]) := ho8
    have hB9 : w8.drew.ownsRow B 65 1 b n us := hB8
    have hv9 : w8.drew.ownsRow Bv 146 2 (.slice av l.length cv) l.length (aV l) := hv8
    have hk9 := hk8.drew
    clear h8 ho8 hB8 hk8 hv8 hv7 hv1
    generalize w8.drew = w9 at h9 ho9 hB9 hv9 hk9 ⊢
    have s0 := h9.cells.2.1
    refine anyT_free 0 (.pointer (some ⟨p, 0, none⟩)) rfl (by decide) (by kernel_rfl) (by kernel_rfl) (by kernel_rfl) (fun _ _ _ h => h) (by rfl) (fun w' => by go_simp) (.inr s0) (fun K hK => ?_); go_simp; refine hK _ _ ?_; clear hK K
    refine anyT_free 1 (.pointer (some ⟨p, 0, none⟩)) rfl (by decide) (by kernel_rfl) (by kernel_rfl) (by kernel_rfl) (fun _ _ _ h => h) (by rfl) (fun w' => by go_simp) (.inr s0) (fun K hK => ?_); go_simp; refine hK _ _ ?_; clear hK K
    refine anyT_free 2 (.pointer (some ⟨p, 0, none⟩)) rfl (by decide) (by kernel_rfl) (by kernel_rfl) (by kernel_rfl) (fun _ _ _ h => h) (by rfl) (fun w' => by go_simp) (.inr s0) (fun K hK => ?_); go_simp; refine hK _ _ ?_; clear hK K
    refine anyT_free 3 (.pointer (some ⟨p, 17, none⟩)) rfl (by decide) (by kernel_rfl) (by kernel_rfl) (by kernel_rfl) (fun _ _ _ h => h) (by rfl) (fun w' => by go_simp) (.inr s0) (fun K hK => ?_); go_simp; refine hK _ _ ?_; clear hK K
    refine anyT_take 4 b rfl (by decide) rfl (by kernel_rfl) (by kernel_rfl) (by kernel_rfl) (by kernel_rfl) (fun _ _ _ h => h) (by rfl) (fun w' hS => by go_simp) (by rfl) s0 (fun K hK => ?_); go_simp; refine hK _ _ ?_; clear hK K
    refine anyT_free 5 (.slice av l.length cv) rfl (by decide) (by kernel_rfl) (by kernel_rfl) (by kernel_rfl) (fun _ _ _ h => h) (by rfl) (fun w' => by go_simp) (.inr s0) (fun K hK => ?_); go_simp; refine hK _ _ ?_; clear hK K
    have hsz9 := hk9.size
    have kc := copyAvas_any _ l w9 (own_avs hv9) hl
    refine anyT_one 6 (by kernel_rfl) rfl (by rfl) (fun K hK => ?_); go_simp
    refine Calls.mono (show Calls _ _ _ _ _ from kc) ?_
    rintro e w10 ⟨⟨u, rfl, hu⟩, hb10⟩
    obtain ⟨au, cu, hue⟩ := sl_of hu
    subst hue
    have h10 := h9.below hb10
    have ho10 := ownBelow ho9 hb10
    have hB10 := ownBelow hB9 hb10
    have hk10 := hk9.ext hb10
    have s1 := h10.cells.2.1
    refine hK _ _ (.inr s1) ?_; clear hK K
    clear kc s0 h9 ho9 hB9 hk9 hv9 hb10
    have hsz10 := hk10.size
    refine anyT_one 7 (by kernel_rfl) rfl (by rfl) (fun K hK => ?_); go_simp
    have hbC : Below w10.heap.size w10 (w10.alloc (.cells #[.slice au l.length cu] 65)) := (Below.refl _ _).alloc (Nat.le_refl _) _
    have h11 := h10.below hbC
    have ho11 := ownBelow ho10 hbC
    have hB11 := ownBelow hB10 hbC
    have hu11 := ownBelow hu hbC
    have hk11 := hk10.ext hbC
    refine hK _ _ (.inr h11.cells.2.1) ?_; clear hK K
    refine anyT_one 8 (by kernel_rfl) rfl (by rfl) (fun K hK => ?_)
    refine wp_append_lies _ (.tmp 24) (.tmp 27) 32 rfl B 65 j0 (.slice none 0 0) 1 24 Tryz.underlying32 hj0 hy0 hy1 hy2 rfl (by decide) b n us rfl hB11 ⟨w10.heap.size, 0, none⟩ 1 1 [.slice au l.length cu] rfl rfl (cell_one_new _ _ _) ?k1 (by decide) ?k2 ?k3 ?k4 _ rfl ?_
    case k1 => intro u hu; simp at hu; subst hu; rfl
    case k2 => unfold maxLen; omega
    case k3 => omega
    case k4 => simp; omega
    intro gb cb w12 ho12 hg12 hat12 hlt12
    have h12 := h11.grown hB11 (by decide) hg12
    have hu12 := own_far hB11 hu11 (by decide) hg12
    have hoo12 : w12.ownsRow B 65 1 (.slice (some ⟨ga, 0, none⟩) (n + 1) cap') (n + 1) (vs ++ [.slice av l.length cv]) := by
      exact ho11.kept hg12 (.inr (fun e => hne7 _ rfl e.symm))
    have hne12 : ∀ k, (Value.slice (some ⟨ga, 0, none⟩) (n + 1) cap').ownBlock = some k → (Value.slice (some ⟨gb, 0, none⟩) (n + 1) cb).ownBlock ≠ some k := by
      intro k hk e
      rcases hat12 with h | h
      · exact hne7 k hk (by rw [h]; exact e)
      · have h1 := (ho10.lt k hk).2
        have h2 : gb = k := Option.some.inj e
        simp at h
        omega
    have hk12 : KG (fun k => k = p ∨ (Value.slice aa n ca).ownBlock = some k ∨ b.ownBlock = some k) w w12 := hk11.grown hg12 (fun k hk => .inl (.inr (.inr hk)))
    refine hK _ _ (.inr h12.cells.2.1) ?_; clear hK K
    clear hg12 hat12 ho11 hB11 hu11 h11 hk11 ho10 hB10 h10 hk10 s1 hbC hu
    have s2 := h12.cells.2.1
    have f2 := h12.frozen 17
    refine anyT_one 9 (by kernel_rfl) rfl (by rfl) (fun K hK => ?_); go_simp; refine hK _ _ (.inr s2) ?_; clear hK K
    refine anyT_one 10 (by kernel_rfl) rfl (by rfl) (fun K hK => ?_); go_simp; refine hK _ _ (.inr s2) ?_; clear hK K
    refine anyT_one 11 (by kernel_rfl) rfl (by rfl) (fun K hK => ?_); go_simp; refine hK _ _ (.inl (by rfl)) ?_; clear hK K
    have h13 := h12.set17 (.slice (some ⟨gb, 0, none⟩) (n + 1) cb)
    have ho13 := own_setp (i := 17) (x := .slice (some ⟨gb, 0, none⟩) (n + 1) cb) h12 hoo12 (by decide)
    have hB13 := own_setp (i := 17) (x := .slice (some ⟨gb, 0, none⟩) (n + 1) cb) h12 ho12 (by decide)
    have hu13 := own_setp (i := 17) (x := .slice (some ⟨gb, 0, none⟩) (n + 1) cb) h12 hu12 (by decide)
    have hk13 := hk12.set ⟨p, 17, none⟩ (.slice (some ⟨gb, 0, none⟩) (n + 1) cb) (.inl (.inl rfl))
    clear s2 f2 h12 hoo12 ho12 hu12 hk12
    generalize w12.setCell ⟨p, 17, none⟩ (.slice (some ⟨gb, 0, none⟩) (n + 1) cb) = w13 at h13 ho13 hB13 hu13 hk13 ⊢
    refine anyT_done (by kernel_rfl) ?_ _
    have hpost : AvPost w p (.slice aa n ca) b c d (.slice av l.length cv) B n vs us l w13 := by
      have e1 := ho13.1
      have e2 := hB13.1
      refine ⟨_, _, vs ++ [.slice av l.length cv], us ++ [.slice au l.length cu], h13, ?_, ?_, hne12, hk13, .inl ⟨hlt, rfl, _, rfl, ownMono hu13 (by omega)⟩⟩
      · rw [e1, Nat.mul_one]; exact ho13
      · rw [e2, Nat.mul_one]; exact hB13
    first | go_end0 | refine bodyPost_ret (v := .tuple #[]) (by simp [results, Tryz.results21, go_sem]) rfl ?_
    exact ⟨rfl, hpost⟩
  · obtain rfl : n = 250 := by omega
    have hpost : AvPost w p (.slice aa 250 ca) b c d v B 250 vs us l w := by
      have e1 := ha.1
      have e2 := hb.1
      refine ⟨_, _, vs, us, h, ?_, ?_, hne, KG.refl _ _, .inr ⟨rfl, rfl, rfl⟩⟩
      · rw [e1]; exact ha
      · rw [e2]; exact hb
    go_enter Tryz.func21, Tryz.ntmps21
    go_wp2_with fail
    first | go_end0 | refine bodyPost_ret (v := .tuple #[]) (by simp [results, Tryz.results21, go_sem]) rfl ?_
    exact ⟨rfl, hpost⟩
end Go.Proofs.YtegigcneimjimaaGreatDoor
namespace Go.Proofs.YtegigcneimjimaaGreatDoor
open Go.RowKit Go.Lib

theorem OwnD.sl {B : Nat} {w : World} {v : Value} {d : List (List Av)} (h : OwnD B w v d) : ∃ a c, v = .slice a d.length c := by
  obtain ⟨_, ho, _⟩ := h
  exact sl_of ho
theorem OwnD.far {B' B e size n : Nat} {w w' : World} {v l : Value} {xs : List Value} {d : List (List Av)} (h : OwnD B' w v d) (hl : w.ownsRow B e size l n xs) (he : e ≠ 66) (he2 : e ≠ 146) (hg : w.grownBy w' l.ownBlock) : OwnD B' w' v d := by
  obtain ⟨vs, ho, ha, hs⟩ := h
  exact ⟨vs, own_far hl ho he hg, fun j r hj => by obtain ⟨u, h1, h2⟩ := ha j r hj; exact ⟨u, h1, own_far hl h2 he2 hg⟩, hs⟩
theorem OwnD.setp {B i p : Nat} {w : World} {v a b c d x : Value} {l : List (List Av)} (h : OwnD B w v l) (hp : BkAt w p a b c d) : OwnD B (w.setCell ⟨p, i, none⟩ x) v l := by
  obtain ⟨vs, ho, ha, hs⟩ := h
  exact ⟨vs, own_setp hp ho (by decide), fun j r hj => by obtain ⟨u, h1, h2⟩ := ha j r hj; exact ⟨u, h1, own_setp hp h2 (by decide)⟩, hs⟩
def RdPost (w : World) (p : Nat) (a b c d v : Value) (B n : Nat) (vs us : List Value) (l : List (List Av)) (w' : World) : Prop :=
  ∃ (a' b' : Value) (vs' us' : List Value), BkAt w' p c d a' b' ∧ w'.ownsRow B 59 1 a' vs'.length vs' ∧ w'.ownsRow B 59 1 b' us'.length us' ∧ (∀ k, a'.ownBlock = some k → b'.ownBlock ≠ some k) ∧
    KG (fun k => k = p ∨ a.ownBlock = some k ∨ b.ownBlock = some k) w w' ∧ (n < 250 ∧ vs' = vs ++ [v] ∧ (∃ u, us' = us ++ [u] ∧ OwnD B w' u l) ∨ n = 250 ∧ vs' = vs ∧ us' = us)
set_option maxRecDepth 100000 in
set_option maxHeartbeats 4000000 in
theorem Rdns_any (p : Nat) (a b c d v : Value) (B n : Nat) (vs us : List Value) (l : List (List Av)) (w : World) (h : BkAt w p c d a b) (ha : w.ownsRow B 59 1 a n vs) (hb : w.ownsRow B 59 1 b n us) (Bv : Nat) (hv : OwnD Bv w v l) (hl : l.length ≤ 1000000) (hr : ∀ r ∈ l, r.length ≤ 1000000)
    (hB : B ≤ w.heap.size) (hne : ∀ k, a.ownBlock = some k → b.ownBlock ≠ some k) (hn : n ≤ 250) :
    Calls Tryz.prog 121 #[.pointer (some ⟨p, 0, none⟩), v] w fun e w' => e = .returned (.tuple #[]) ∧ RdPost w p a b c d v B n vs us l w' := by
  obtain ⟨j0, hj0, hy0, hy1, hy2⟩ := info_parts (show (Tryz.prog.info? 59).map (fun i => (i.zero, i.size, i.bytes)) = some (some (.slice none 0 0), 1, 24) by kernel_rfl)
  obtain ⟨aa, ca, hae⟩ := sl_of ha
  subst hae
  obtain ⟨_, _, q0, _⟩ := h.cells
  by_cases hlt : n < 250
  · have i3 : decide ((n : Int) < 250) = true := decide_eq_true (by omega)
    obtain ⟨av, cv, hve⟩ := hv.sl
    subst hve
    have HNE := Lib.hid hne
    have HR := Lib.hid hr
    clear hne hr
    have hbA : Below w.heap.size w (w.alloc (.cells #[.slice av l.length cv] 59)) := (Below.refl _ _).alloc (Nat.le_refl _) _
    have hA1 := ownBelow ha hbA
    have hB1 := ownBelow hb hbA
    have hv1 := hv.below hbA
    have h1 := h.below hbA
    go_enter Tryz.func121, Tryz.ntmps121
    go_wp2_with (at_builtin; refine wpList_append_own_at _ rfl (.tmp 14) (.tmp 16) 33 rfl B 59 j0 (.slice none 0 0) 1 24 Tryz.underlying33 hj0 hy0 hy1 hy2 rfl (by decide) (.slice aa n ca) n vs rfl hA1 ⟨w.heap.size, 0, none⟩ 1 1 [.slice av l.length cv] rfl rfl (cell_one_new _ _ _) ?h2 ?h3 ?h4 ?h5 ?_)
    case h2 => intro u hu; simp at hu; subst hu; rfl
    case h3 => unfold maxLen; omega
    case h4 => omega
    case h5 => simp; omega
    intro a' w7 ho7 hg7 _ hat7
    have h7 := h1.grown hA1 (by decide) hg7
    have hB7 : w7.ownsRow B 59 1 b n us := by
      refine hB1.kept hg7 ?_
      cases hk : b.ownBlock with
      | none => exact .inl rfl
      | some k => exact .inr (fun e => HNE.out k e.symm hk)
    have hv7 := hv1.far hA1 (by decide) (by decide) hg7
    obtain ⟨_, _, q0', _⟩ := h7.cells
    have f0 := h7.frozen 18
    have hk7 : KG (fun k => k = p ∨ (Value.slice aa n ca).ownBlock = some k ∨ b.ownBlock = some k) w w7 := (KG.of_below hbA).grown hg7 (fun k hk => .inl (.inr (.inl hk)))
    have hsz7 := hk7.size
    obtain ⟨ga, cap', hae'⟩ : ∃ g c, a' = .slice (some ⟨g, 0, none⟩) (n + 1) c := by
      rcases ho7.2 with ⟨_, h0⟩ | ⟨g, c, _, h0, _⟩
      · omega
      · exact ⟨g, c, h0⟩
    subst hae'
    have hne7 : ∀ k, (Value.slice (some ⟨ga, 0, none⟩) (n + 1) cap').ownBlock = some k → b.ownBlock ≠ some k := by
      intro k hk e
      rcases hat7 with h | h
      · exact HNE.out k (by rw [← h]; exact hk) e
      · rw [h] at hk
        have := (hb.lt k e).2
        have h3 : (w.alloc (.cells #[.slice av l.length cv] 59)).heap.size = w.heap.size + 1 := by simp
        have h4 := Option.some.inj hk
        omega
    clear q0 hat7
    go_wp2_with fail
    have h8 := h7.set18 (.slice (some ⟨ga, 0, none⟩) (n + 1) cap')
    have ho8 := own_setp (i := 18) (x := .slice (some ⟨ga, 0, none⟩) (n + 1) cap') h7 ho7 (by decide)
    have hB8 := own_setp (i := 18) (x := .slice (some ⟨ga, 0, none⟩) (n + 1) cap') h7 hB7 (by decide)
    have hv8 := hv7.setp (i := 18) (x := .slice (some ⟨ga, 0, none⟩) (n + 1) cap') h7
    have hk8 := hk7.set ⟨p, 18, none⟩ (.slice (some ⟨ga, 0, none⟩) (n + 1) cap') (.inl (.inl rfl))
    clear h7 ho7 hB7 hk7 q0' f0 hg7 h1 hA1 hB1 hsz7
    generalize w7.setCell ⟨p, 18, none⟩ (.slice (some ⟨ga, 0, none⟩) (n + 1) cap') = w8 at h8 ho8 hB8 hv8 hk8 ⊢
    refine region_anyT (S := fun w' => w'.cell? ⟨p, 19, none⟩ = some b) (st := 11) (by kernel_rfl) ?_
    have h9 : BkAt w8.drew p c d (.slice (some ⟨ga, 0, none⟩) (n + 1) cap') b := h8
    have ho9 : w8.drew.ownsRow B 59 1 (.slice (some ⟨ga, 0, none⟩) (n + 1) cap') (n + 1) (vs ++ [.slice av l.length cv]) := ho8
    have hB9 : w8.drew.ownsRow B 59 1 b n us := hB8
    have hv9 : OwnD Bv w8.drew (.slice av l.length cv) l := hv8
    have hk9 := hk8.drew
    clear h8 ho8 hB8 hk8 hv8 hv7 hv1
    generalize w8.drew = w9 at h9 ho9 hB9 hv9 hk9 ⊢
    have s0 := h9.cells.2.2.2
    refine anyT_free 0 (.pointer (some ⟨p, 0, none⟩)) rfl (by decide) (by kernel_rfl) (by kernel_rfl) (by kernel_rfl) (fun _ _ _ h => h) (by rfl) (fun w' => by go_simp) (.inr s0) (fun K hK => ?_); go_simp; refine hK _ _ ?_; clear hK K
    refine anyT_free 1 (.pointer (some ⟨p, 0, none⟩)) rfl (by decide) (by kernel_rfl) (by kernel_rfl) (by kernel_rfl) (fun _ _ _ h => h) (by rfl) (fun w' => by go_simp) (.inr s0) (fun K hK => ?_); go_simp; refine hK _ _ ?_; clear hK K
    refine anyT_free 2 (.pointer (some ⟨p, 0, none⟩)) rfl (by decide) (by kernel_rfl) (by kernel_rfl) (by kernel_rfl) (fun _ _ _ h => h) (by rfl) (fun w' => by go_simp) (.inr s0) (fun K hK => ?_); go_simp; refine hK _ _ ?_; clear hK K
    refine anyT_free 3 (.pointer (some ⟨p, 19, none⟩)) rfl (by decide) (by kernel_rfl) (by kernel_rfl) (by kernel_rfl) (fun _ _ _ h => h) (by rfl) (fun w' => by go_simp) (.inr s0) (fun K hK => ?_); go_simp; refine hK _ _ ?_; clear hK K
    refine anyT_take 4 b rfl (by decide) rfl (by kernel_rfl) (by kernel_rfl) (by kernel_rfl) (by kernel_rfl) (fun _ _ _ h => h) (by rfl) (fun w' hS => by go_simp) (by rfl) s0 (fun K hK => ?_); go_simp; refine hK _ _ ?_; clear hK K
    refine anyT_free 5 (.slice av l.length cv) rfl (by decide) (by kernel_rfl) (by kernel_rfl) (by kernel_rfl) (fun _ _ _ h => h) (by rfl) (fun w' => by go_simp) (.inr s0) (fun K hK => ?_); go_simp; refine hK _ _ ?_; clear hK K
    have hsz9 := hk9.size
    have kc := copyRdns_any _ l w9 hv9.at hl HR.out
    refine anyT_one 6 (by kernel_rfl) rfl (by rfl) (fun K hK => ?_); go_simp
    refine Calls.mono (show Calls _ _ _ _ _ from kc) ?_
    rintro e w10 ⟨⟨u, rfl, hu⟩, hb10⟩
    obtain ⟨au, cu, hue⟩ := hu.sl
    subst hue
    have h10 := h9.below hb10
    have ho10 := ownBelow ho9 hb10
    have hB10 := ownBelow hB9 hb10
    have hk10 := hk9.ext hb10
    have s1 := h10.cells.2.2.2
    refine hK _ _ (.inr s1) ?_; clear hK K
    clear kc s0 h9 ho9 hB9 hk9 hv9 hb10
    have hsz10 := hk10.size
    refine anyT_one 7 (by kernel_rfl) rfl (by rfl) (fun K hK => ?_); go_simp
    have hbC : Below w10.heap.size w10 (w10.alloc (.cells #[.slice au l.length cu] 59)) := (Below.refl _ _).alloc (Nat.le_refl _) _
    have h11 := h10.below hbC
    have ho11 := ownBelow ho10 hbC
    have hB11 := ownBelow hB10 hbC
    have hu11 := hu.below hbC
    have hk11 := hk10.ext hbC
    refine hK _ _ (.inr h11.cells.2.2.2) ?_; clear hK K
    refine anyT_one 8 (by kernel_rfl) rfl (by rfl) (fun K hK => ?_)
    refine wp_append_lies _ (.tmp 24) (.tmp 27) 33 rfl B 59 j0 (.slice none 0 0) 1 24 Tryz.underlying33 hj0 hy0 hy1 hy2 rfl (by decide) b n us rfl hB11 ⟨w10.heap.size, 0, none⟩ 1 1 [.slice au l.length cu] rfl rfl (cell_one_new _ _ _) ?k1 (by decide) ?k2 ?k3 ?k4 _ rfl ?_
    case k1 => intro u hu; simp at hu; subst hu; rfl
    case k2 => unfold maxLen; omega
    case k3 => omega
    case k4 => simp; omega
    intro gb cb w12 ho12 hg12 hat12 hlt12
    have h12 := h11.grown hB11 (by decide) hg12
    have hu12 := hu11.far hB11 (by decide) (by decide) hg12
    have hoo12 : w12.ownsRow B 59 1 (.slice (some ⟨ga, 0, none⟩) (n + 1) cap') (n + 1) (vs ++ [.slice av l.length cv]) := by
      exact ho11.kept hg12 (.inr (fun e => hne7 _ rfl e.symm))
    have hne12 : ∀ k, (Value.slice (some ⟨ga, 0, none⟩) (n + 1) cap').ownBlock = some k → (Value.slice (some ⟨gb, 0, none⟩) (n + 1) cb).ownBlock ≠ some k := by
      intro k hk e
      rcases hat12 with h | h
      · exact hne7 k hk (by rw [h]; exact e)
      · have h1 := (ho10.lt k hk).2
        have h2 : gb = k := Option.some.inj e
        simp at h
        omega
    have hk12 : KG (fun k => k = p ∨ (Value.slice aa n ca).ownBlock = some k ∨ b.ownBlock = some k) w w12 := hk11.grown hg12 (fun k hk => .inl (.inr (.inr hk)))
    refine hK _ _ (.inr h12.cells.2.2.2) ?_; clear hK K
    clear hg12 hat12 ho11 hB11 hu11 h11 hk11 ho10 hB10 h10 hk10 s1 hbC hu
    have s2 := h12.cells.2.2.2
    have f2 := h12.frozen 19
    refine anyT_one 9 (by kernel_rfl) rfl (by rfl) (fun K hK => ?_); go_simp; refine hK _ _ (.inr s2) ?_; clear hK K
    refine anyT_one 10 (by kernel_rfl) rfl (by rfl) (fun K hK => ?_); go_simp; refine hK _ _ (.inr s2) ?_; clear hK K
    refine anyT_one 11 (by kernel_rfl) rfl (by rfl) (fun K hK => ?_); go_simp; refine hK _ _ (.inl (by rfl)) ?_; clear hK K
    have h13 := h12.set19 (.slice (some ⟨gb, 0, none⟩) (n + 1) cb)
    have ho13 := own_setp (i := 19) (x := .slice (some ⟨gb, 0, none⟩) (n + 1) cb) h12 hoo12 (by decide)
    have hB13 := own_setp (i := 19) (x := .slice (some ⟨gb, 0, none⟩) (n + 1) cb) h12 ho12 (by decide)
    have hu13 := hu12.setp (i := 19) (x := .slice (some ⟨gb, 0, none⟩) (n + 1) cb) h12
    have hk13 := hk12.set ⟨p, 19, none⟩ (.slice (some ⟨gb, 0, none⟩) (n + 1) cb) (.inl (.inl rfl))
    clear s2 f2 h12 hoo12 ho12 hu12 hk12
    generalize w12.setCell ⟨p, 19, none⟩ (.slice (some ⟨gb, 0, none⟩) (n + 1) cb) = w13 at h13 ho13 hB13 hu13 hk13 ⊢
    refine anyT_done (by kernel_rfl) ?_ _
    have hpost : RdPost w p (.slice aa n ca) b c d (.slice av l.length cv) B n vs us l w13 := by
      have e1 := ho13.1
      have e2 := hB13.1
      refine ⟨_, _, vs ++ [.slice av l.length cv], us ++ [.slice au l.length cu], h13, ?_, ?_, hne12, hk13, .inl ⟨hlt, rfl, _, rfl, hu13.mono (by omega)⟩⟩
      · rw [e1, Nat.mul_one]; exact ho13
      · rw [e2, Nat.mul_one]; exact hB13
    first | go_end0 | refine bodyPost_ret (v := .tuple #[]) (by simp [results, Tryz.results121, go_sem]) rfl ?_
    exact ⟨rfl, hpost⟩
  · obtain rfl : n = 250 := by omega
    have hpost : RdPost w p (.slice aa 250 ca) b c d v B 250 vs us l w := by
      have e1 := ha.1
      have e2 := hb.1
      refine ⟨_, _, vs, us, h, ?_, ?_, hne, KG.refl _ _, .inr ⟨rfl, rfl, rfl⟩⟩
      · rw [e1]; exact ha
      · rw [e2]; exact hb
    go_enter Tryz.func121, Tryz.ntmps121
    go_wp2_with fail
    first | go_end0 | refine bodyPost_ret (v := .tuple #[]) (by simp [results, Tryz.results121, go_sem]) rfl ?_
    exact ⟨rfl, hpost⟩
end Go.Proofs.YtegigcneimjimaaGreatDoor
