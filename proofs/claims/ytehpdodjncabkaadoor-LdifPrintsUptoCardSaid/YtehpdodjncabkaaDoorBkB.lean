/- chancerybook.copyAttrs: what it returns. -/
import Derived.Test.YtehpdodjncabkaaDoorBkA
namespace Go.Proofs.YtehpdodjncabkaaDoor
open Go.RowKit Go.Lib

/-- Attributes whose lists all lie in rows of their own. -/
def OwnA (B : Nat) (w : World) (v : Value) (al : List At) (us : List Value) : Prop :=
  w.ownsRow B 51 2 v al.length (flatA al us) ∧ us.length = al.length ∧ ∀ (j : Nat) (x : At) (u : Value), al[j]? = some x → us[j]? = some u → w.ownsRow B 9 1 u x.2.length (sV x.2)
theorem flatA_all (P : Nat → Value → Prop) : ∀ (al : List At) (us : List Value) (o : Nat), us.length = al.length → (∀ (j : Nat) (x : At) (u : Value), al[j]? = some x → us[j]? = some u → P (o + j * 2) (.string ⟨x.1.toArray⟩) ∧ P (o + j * 2 + 1) u) → ∀ (i : Nat) (y : Value), (flatA al us)[i]? = some y → P (o + i) y
  | [], _, _, _, _, i, y, h => by simp [flatA] at h
  | _ :: _, [], _, hl, _, _, _, _ => by simp at hl
  | a :: al, u :: us, o, hl, hp, i, y, h => by
    have h0 := hp 0 a u rfl rfl
    match i, h with
    | 0, h => simp only [flatA, List.getElem?_cons_zero, Option.some.injEq] at h; subst h; simpa using h0.1
    | 1, h => simp only [flatA, List.getElem?_cons_succ, List.getElem?_cons_zero, Option.some.injEq] at h; subst h; simpa using h0.2
    | i + 2, h =>
      simp only [flatA, List.getElem?_cons_succ] at h
      have := flatA_all P al us (o + 2) (by simpa using hl) (fun j x v h1 h2 => by
        have := hp (j + 1) x v (by simpa using h1) (by simpa using h2)
        rw [show o + (j + 1) * 2 = o + 2 + j * 2 by omega] at this
        exact this) i y h
      rw [show o + (i + 2) = o + 2 + i by omega]
      exact this
theorem AttrsAt.us {w : World} {ad : Addr} {n cap : Nat} {al : List At} (h : AttrsAt w (.slice (some ad) n cap) al) : ∃ us : List Value, us.length = al.length ∧ (∀ i y, (flatA al us)[i]? = some y → w.cell? (ad.add i) = some y) ∧ (∀ u ∈ flatA al us, u.oneCell' = true) ∧
    ∀ (j : Nat) (x : At) (u : Value), al[j]? = some x → us[j]? = some u → StrsAt w u x.2 := by
  obtain ⟨a, c, e, _, hr⟩ := h
  rcases Classical.em (al = []) with h0 | h0
  · subst h0
    exact ⟨[], rfl, fun i y h => by simp [flatA] at h, fun u hu => by simp [flatA] at hu, fun j x u h => by simp at h⟩
  · obtain ⟨g, o, ha, hcell⟩ := hr h0
    simp only [Value.slice.injEq] at e
    obtain ⟨e1, _, _⟩ := e
    rw [ha] at e1
    cases e1
    have each : ∀ j, ∃ u, ∀ x, al[j]? = some x → w.cell? ⟨g, o + j * 2, none⟩ = some (.string ⟨x.1.toArray⟩) ∧ w.cell? ⟨g, o + j * 2 + 1, none⟩ = some u ∧ StrsAt w u x.2 := by
      intro j
      cases hj : al[j]? with
      | none => exact ⟨.slice none 0 0, fun x h => by cases h⟩
      | some x =>
        obtain ⟨h1, u, h2, h3⟩ := hcell j x hj
        exact ⟨u, fun y hy => by cases hy; exact ⟨h1, h2, h3⟩⟩
    let f := fun j => Classical.choose (each j)
    have hf : ∀ j x, al[j]? = some x → w.cell? ⟨g, o + j * 2, none⟩ = some (.string ⟨x.1.toArray⟩) ∧ w.cell? ⟨g, o + j * 2 + 1, none⟩ = some (f j) ∧ StrsAt w (f j) x.2 := fun j => Classical.choose_spec (each j)
    have hus : ∀ j u, ((List.range al.length).map f)[j]? = some u → u = f j := by
      intro j u h
      have hj := (List.getElem?_eq_some_iff.1 h).1
      simp only [List.length_map, List.length_range] at hj
      rw [List.getElem?_map, List.getElem?_range hj] at h
      cases h
      rfl
    refine ⟨(List.range al.length).map f, by simp, ?_, ?_, ?_⟩
    · intro i y h
      have := flatA_all (fun i y => w.cell? ⟨g, o + i, none⟩ = some y) al _ 0 (by simp) (fun j x u h1 h2 => by
        rw [hus j u h2]
        obtain ⟨q1, q2, _⟩ := hf j x h1
        rw [Nat.zero_add]
        exact ⟨q1, q2⟩) i y h
      rw [Addr.add_lit]
      rw [Nat.zero_add] at this
      exact this
    · have := flatA_all (fun _ y => y.oneCell' = true) al ((List.range al.length).map f) 0 (by simp) (fun j x u h1 h2 => by
        rw [hus j u h2]
        obtain ⟨_, _, q3⟩ := hf j x h1
        obtain ⟨a, c, e, _⟩ := q3
        exact ⟨rfl, by rw [e]; rfl⟩)
      intro u hu
      obtain ⟨i, hi⟩ := List.getElem?_of_mem hu
      exact this i u hi
    · intro j x u h1 h2
      rw [hus j u h2]
      exact (hf j x h1).2.2
theorem own_shape {w : World} {base e size n : Nat} {v : Value} {xs : List Value} (h : w.ownsRow base e size v n xs) : ∃ a c, v = .slice a n c := by
  rcases h.2 with ⟨rfl, h0⟩ | ⟨g, cap, cur, rfl, _⟩
  · exact ⟨none, 0, by rw [h0]⟩
  · exact ⟨_, _, rfl⟩
theorem own_mono {w : World} {base base' e size n : Nat} {v : Value} {xs : List Value} (h : w.ownsRow base e size v n xs) (hb : base' ≤ base) : w.ownsRow base' e size v n xs := by
  refine ⟨h.1, ?_⟩
  rcases h.2 with h1 | ⟨g, cap, cur, h1, h2, h3⟩
  · exact .inl h1
  · exact .inr ⟨g, cap, cur, h1, Nat.le_trans hb h2, h3⟩
def CaRel (w : World) (al : List At) (v i : Value) (wr : World) : Prop :=
  ∃ (k : Nat) (us : List Value), i = .int .i64 (k : Int) ∧ k ≤ al.length ∧ wr.ownsRow w.heap.size 51 2 v al.length (flatA al us) ∧ us.length = al.length ∧ Below w.heap.size w wr ∧
    (∀ (j : Nat) (x : At) (u : Value), j < k → al[j]? = some x → us[j]? = some u → wr.ownsRow w.heap.size 9 1 u x.2.length (sV x.2)) ∧
    (∀ (j : Nat) (x : At) (u : Value), k ≤ j → al[j]? = some x → us[j]? = some u → StrsAt w u x.2)
theorem flatA_put : ∀ (al : List At) (us : List Value) (k : Nat) (x : Value), us.length = al.length → k < al.length → (flatA al us).set (k * 2 + 1) x = flatA al (us.set k x)
  | [], _, _, _, _, h => by simp at h
  | _ :: _, [], _, _, h, _ => by simp at h
  | a :: al, u :: us, 0, x, _, _ => by simp [flatA]
  | a :: al, u :: us, k + 1, x, hl, hk => by
    have := flatA_put al us k x (by simpa using hl) (by simpa using hk)
    rw [show (k + 1) * 2 + 1 = k * 2 + 1 + 1 + 1 by omega]
    simp only [flatA, List.set_cons_succ, this]
set_option maxRecDepth 100000 in
set_option maxHeartbeats 4000000 in
theorem copyAttrs_any (v : Value) (al : List At) (w : World) (h : AttrsAt w v al) (hl : al.length ≤ 1000000000) (hv : ∀ x ∈ al, x.2.length ≤ 1000000000) :
    Calls Tryd.prog 43 #[v] w fun e w' => (∃ v' us, e = .returned v' ∧ OwnA w.heap.size w' v' al us) ∧ Below w.heap.size w w' := by
  obtain ⟨i0, hi0, hz0, hz1, hz2⟩ := info_parts Tryd.infoAttr
  have H := Lib.hid h
  have HV := Lib.hid hv
  clear hv
  obtain ⟨a, cap, rfl, hc, hr⟩ := h
  cases a with
  | none =>
    have hnil : al = [] := by
      rcases Classical.em (al = []) with h | h
      · exact h
      · obtain ⟨g, o, ha, _⟩ := hr h; cases ha
    subst hnil
    go_enter Tryd.func43, Tryd.ntmps43
    go_wp2_with (at_builtin; refine wpList_append_voidB rfl (.const (.slice none 0 0)) (.tmp 4) 22 rfl w.heap.size 51 i0 2 Tryd.underlying22 hi0 (.slice none 0 0) 0 [] rfl (World.ownsRow_nil _ _ _ _) cap rfl ?_)
    go_loopw [3] (fun i wr => i = .int .i64 0 ∧ wr = w) (fun _ _ => 0)
    case atStart => exact ⟨rfl, rfl⟩
    case round =>
      obtain ⟨rfl, rfl⟩ := hrel
      go_wp2_with fail
      go_ret
      exact ⟨⟨_, [], rfl, World.ownsRow_nil _ _ _ _, rfl, fun j x u h => by simp at h⟩, Below.refl _ _⟩
  | some ad =>
    obtain ⟨us, hul, hcl, hone, hst⟩ := H.out.us
    have HC := Lib.hid hcl
    have HO := Lib.hid hone
    have HS := Lib.hid hst
    clear hr hcl hone hst
    have hfl := flatA_length al us hul
    go_enter Tryd.func43, Tryd.ntmps43
    go_wp2_with (at_builtin; refine wpList_append_own _ rfl (.const (.slice none 0 0)) (.tmp 4) 22 rfl w.heap.size 51 i0 (.agg #[.string ⟨#[]⟩, .slice none 0 0]) 2 40 Tryd.underlying22 hi0 hz0 hz1 hz2 rfl (by decide) (.slice none 0 0) 0 [] rfl (World.ownsRow_nil _ _ _ _) ad al.length cap (flatA al us) rfl hfl HC.out HO.out ?d3 ?d4 (Nat.le_refl _) ?_)
    case d3 => unfold maxLen; omega
    case d4 => omega
    intro v' w7 ho7 hg7 _
    have hb7 : Below w.heap.size w w7 := (Below.refl w.heap.size w).grown hg7 (Nat.le_refl _) (fun b hb => by cases hb)
    have HO7 := Lib.hid ho7
    clear ho7 hg7
    go_wp2_with fail
    go_loopw [3] (fun i wr => CaRel w al v' i wr) (fun i _ => al.length - (RowKit.intOf i).toNat)
    case atStart => exact ⟨0, us, rfl, by omega, by have := HO7.out; simpa using this, hul, hb7, fun j x u h => by omega, fun j x u _ h1 h2 => HS.out j x u h1 h2⟩
    case round =>
      clear HO7 hb7
      obtain ⟨k, us, rfl, hk, hown, hul, hbe, hdone, hleft⟩ := hrel
      by_cases hkl : k < al.length
      · obtain ⟨x, hx⟩ : ∃ x, al[k]? = some x := ⟨al[k], List.getElem?_eq_getElem hkl⟩
        obtain ⟨u, hu⟩ : ∃ u, us[k]? = some u := ⟨us[k]'(by omega), List.getElem?_eq_getElem (by omega)⟩
        obtain ⟨g, cap', cur, rfl, hbg, hgb, hcap'⟩ : ∃ g cap' cur, v' = .slice (some ⟨g, 0, none⟩) al.length cap' ∧ w.heap.size ≤ g ∧ wr.heap[g]? = some (.cells cur 51 (0, 0)) ∧ al.length ≤ cap' := by
          rcases id hown.2 with ⟨_, h0⟩ | ⟨g, cap', cur, h1, h2, h3, h4, _⟩
          · omega
          · exact ⟨g, cap', cur, h1, h2, h3, h4⟩
        obtain ⟨f0, f1⟩ := flatA_get al us k x u hx hu
        obtain ⟨q0, _⟩ := own_cell hown f0
        obtain ⟨q1, _⟩ := own_cell hown f1
        have hxv := HV.out x (List.mem_of_getElem? hx)
        have kc := copyTexts_any u x.2 wr ((hleft k x u (Nat.le_refl _) hx hu).below hbe) hxv
        have i1 : (k : Int) < (al.length : Int) := by omega
        have i3 : decide ((k : Int) < (al.length : Int)) = true := decide_eq_true i1
        have HX := Lib.hid hx
        have HD := Lib.hid hdone
        have HL := Lib.hid hleft
        have hszr := hbe.size
        clear hx hu f0 f1 hdone hleft
        go_wp2_with fail
        refine Calls.mono (show Calls _ _ _ _ _ from kc) ?_
        rintro e w5 ⟨⟨u5, rfl, hu5⟩, hb5⟩
        obtain ⟨a5, cp5, h5f⟩ := own_shape hu5
        subst h5f
        have hown5 := own_below hown hb5
        have hgb5 := (hb5.block g (Array.getElem?_eq_some_iff.1 hgb).1).trans hgb
        obtain ⟨q2, q3⟩ := own_cell hown5 (show (flatA al us)[k * 2 + 1]? = _ from (List.getElem?_eq_getElem (by rw [flatA_length al us hul]; omega)))
        have hset := own_set (x := (.slice a5 x.2.length cp5)) hown5 (show k * 2 + 1 < (flatA al us).length by rw [flatA_length al us hul]; omega)
        rw [flatA_put al us k (.slice a5 x.2.length cp5) hul hkl] at hset
        have hb6 : Below w.heap.size w (w5.setCell ⟨g, k * 2 + 1, none⟩ (.slice a5 x.2.length cp5)) := (below_ext hbe hb5).setCell (p := ⟨g, k * 2 + 1, none⟩) hbg _
        have HS6 := Lib.hid hset
        have HB6 := Lib.hid hb6
        have hdone6 : ∀ (j : Nat) (y : At) (v : Value), j < k + 1 → al[j]? = some y → (us.set k (.slice a5 x.2.length cp5))[j]? = some v → (w5.setCell ⟨g, k * 2 + 1, none⟩ (.slice a5 x.2.length cp5)).ownsRow w.heap.size 9 1 v y.2.length (sV y.2) := by
          intro j y v hj hy hv
          by_cases hjk : j = k
          · subst hjk
            rw [List.getElem?_set_self (by omega)] at hv
            cases hv
            rw [HX.out] at hy
            cases hy
            exact set_kept (own_mono hu5 hszr) hgb5 (by decide)
          · rw [List.getElem?_set_ne (fun e => hjk e.symm)] at hv
            exact set_kept (own_below (HD.out j y v (by omega) hy hv) hb5) hgb5 (by decide)
        have hleft6 : ∀ (j : Nat) (y : At) (v : Value), k + 1 ≤ j → al[j]? = some y → (us.set k (.slice a5 x.2.length cp5))[j]? = some v → StrsAt w v y.2 := by
          intro j y v hj hy hv
          rw [List.getElem?_set_ne (by omega)] at hv
          exact HL.out j y v (by omega) hy hv
        have HD6 := Lib.hid hdone6
        have HL6 := Lib.hid hleft6
        clear hset hb6 hdone6 hleft6 hu5 kc q0 q1
        go_wp2_with fail
        exact ⟨⟨k + 1, us.set k (.slice a5 x.2.length cp5), by go_num, by omega, HS6.out, by rw [List.length_set]; exact hul, HB6.out, HD6.out, HL6.out⟩, by simp [RowKit.intOf]; omega⟩
      · obtain rfl : k = al.length := by omega
        obtain ⟨av, cv, hvf⟩ := own_shape hown
        subst hvf
        have HD := Lib.hid hdone
        clear hdone hleft
        go_wp2_with fail
        go_ret
        exact ⟨⟨_, us, rfl, hown, hul, fun j x u h1 h2 => HD.out j x u (List.getElem?_eq_some_iff.1 h1).1 h1 h2⟩, hbe⟩
end Go.Proofs.YtehpdodjncabkaaDoor
