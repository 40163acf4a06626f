/- chancerybook.copyMods: what it returns. -/
import Derived.Test.YtehpdodjncabkaaDoorBkB
import Derived.Test.YtehpdodjncabkaaDoorLdU
namespace Go.Proofs.YtehpdodjncabkaaDoor
open Go.RowKit Go.Lib

/-- Changes whose lists all lie in rows of their own. -/
def OwnM (B : Nat) (w : World) (v : Value) (al : List Md) (us : List Value) : Prop :=
  w.ownsRow B 53 3 v al.length (flatM al us) ∧ us.length = al.length ∧ ∀ (j : Nat) (x : Md) (u : Value), al[j]? = some x → us[j]? = some u → w.ownsRow B 9 1 u x.2.2.length (sV x.2.2)
theorem flatM_all (P : Nat → Value → Prop) : ∀ (al : List Md) (us : List Value) (o : Nat), us.length = al.length → (∀ (j : Nat) (x : Md) (u : Value), al[j]? = some x → us[j]? = some u → P (o + j * 3) (.int .i64 x.1) ∧ P (o + j * 3 + 1) (.string ⟨x.2.1.toArray⟩) ∧ P (o + j * 3 + 2) u) → ∀ (i : Nat) (y : Value), (flatM al us)[i]? = some y → P (o + i) y
  | [], _, _, _, _, i, y, h => by simp [flatM] at h
  | _ :: _, [], _, hl, _, _, _, _ => by simp at hl
  | a :: al, u :: us, o, hl, hp, i, y, h => by
    have h0 := hp 0 a u rfl rfl
    match i, h with
    | 0, h => simp only [flatM, List.getElem?_cons_zero, Option.some.injEq] at h; subst h; simpa using h0.1
    | 1, h => simp only [flatM, List.getElem?_cons_succ, List.getElem?_cons_zero, Option.some.injEq] at h; subst h; simpa using h0.2.1
    | 2, h => simp only [flatM, List.getElem?_cons_succ, List.getElem?_cons_zero, Option.some.injEq] at h; subst h; simpa using h0.2.2
    | i + 3, h =>
      simp only [flatM, List.getElem?_cons_succ] at h
      have := flatM_all P al us (o + 3) (by simpa using hl) (fun j x v h1 h2 => by
        have := hp (j + 1) x v (by simpa using h1) (by simpa using h2)
        rw [show o + (j + 1) * 3 = o + 3 + j * 3 by omega] at this
        exact this) i y h
      rw [show o + (i + 3) = o + 3 + i by omega]
      exact this
theorem ModsAt.us {w : World} {ad : Addr} {n cap : Nat} {al : List Md} (h : ModsAt w (.slice (some ad) n cap) al) : ∃ us : List Value, us.length = al.length ∧ (∀ i y, (flatM al us)[i]? = some y → w.cell? (ad.add i) = some y) ∧ (∀ u ∈ flatM al us, u.oneCell' = true) ∧
    ∀ (j : Nat) (x : Md) (u : Value), al[j]? = some x → us[j]? = some u → StrsAt w u x.2.2 := by
  obtain ⟨a, c, e, _, hr⟩ := h
  rcases Classical.em (al = []) with h0 | h0
  · subst h0
    exact ⟨[], rfl, fun i y h => by simp [flatM] at h, fun u hu => by simp [flatM] at hu, fun j x u h => by simp at h⟩
  · obtain ⟨g, o, ha, hcell⟩ := hr h0
    simp only [Value.slice.injEq] at e
    obtain ⟨e1, _, _⟩ := e
    rw [ha] at e1
    cases e1
    have each : ∀ j, ∃ u, ∀ x, al[j]? = some x → w.cell? ⟨g, o + j * 3, none⟩ = some (.int .i64 x.1) ∧ w.cell? ⟨g, o + j * 3 + 1, none⟩ = some (.string ⟨x.2.1.toArray⟩) ∧ w.cell? ⟨g, o + j * 3 + 2, none⟩ = some u ∧ StrsAt w u x.2.2 := by
      intro j
      cases hj : al[j]? with
      | none => exact ⟨.slice none 0 0, fun x h => by cases h⟩
      | some x =>
        obtain ⟨h1, h2, u, h3, h4⟩ := hcell j x hj
        exact ⟨u, fun y hy => by cases hy; exact ⟨h1, h2, h3, h4⟩⟩
    let f := fun j => Classical.choose (each j)
    have hf : ∀ j x, al[j]? = some x → w.cell? ⟨g, o + j * 3, none⟩ = some (.int .i64 x.1) ∧ w.cell? ⟨g, o + j * 3 + 1, none⟩ = some (.string ⟨x.2.1.toArray⟩) ∧ w.cell? ⟨g, o + j * 3 + 2, none⟩ = some (f j) ∧ StrsAt w (f j) x.2.2 := fun j => Classical.choose_spec (each j)
    have hus : ∀ j u, ((List.range al.length).map f)[j]? = some u → u = f j := by
      intro j u h
      have hj := (List.getElem?_eq_some_iff.1 h).1
      simp only [List.length_map, List.length_range] at hj
      rw [List.getElem?_map, List.getElem?_range hj] at h
      cases h
      rfl
    refine ⟨(List.range al.length).map f, by simp, ?_, ?_, ?_⟩
    · intro i y h
      have := flatM_all (fun i y => w.cell? ⟨g, o + i, none⟩ = some y) al _ 0 (by simp) (fun j x u h1 h2 => by
        rw [hus j u h2]
        obtain ⟨q1, q2, q3, _⟩ := hf j x h1
        rw [Nat.zero_add]
        exact ⟨q1, q2, q3⟩) i y h
      rw [Addr.add_lit]
      rw [Nat.zero_add] at this
      exact this
    · have := flatM_all (fun _ y => y.oneCell' = true) al ((List.range al.length).map f) 0 (by simp) (fun j x u h1 h2 => by
        rw [hus j u h2]
        obtain ⟨_, _, _, q3⟩ := hf j x h1
        obtain ⟨a, c, e, _⟩ := q3
        exact ⟨rfl, rfl, by rw [e]; rfl⟩)
      intro u hu
      obtain ⟨i, hi⟩ := List.getElem?_of_mem hu
      exact this i u hi
    · intro j x u h1 h2
      rw [hus j u h2]
      exact (hf j x h1).2.2.2
def CmRel (w : World) (al : List Md) (v i : Value) (wr : World) : Prop :=
  ∃ (k : Nat) (us : List Value), i = .int .i64 (k : Int) ∧ k ≤ al.length ∧ wr.ownsRow w.heap.size 53 3 v al.length (flatM al us) ∧ us.length = al.length ∧ Below w.heap.size w wr ∧
    (∀ (j : Nat) (x : Md) (u : Value), j < k → al[j]? = some x → us[j]? = some u → wr.ownsRow w.heap.size 9 1 u x.2.2.length (sV x.2.2)) ∧
    (∀ (j : Nat) (x : Md) (u : Value), k ≤ j → al[j]? = some x → us[j]? = some u → StrsAt w u x.2.2)
theorem flatM_put : ∀ (al : List Md) (us : List Value) (k : Nat) (x : Value), us.length = al.length → k < al.length → (flatM al us).set (k * 3 + 2) x = flatM al (us.set k x)
  | [], _, _, _, _, h => by simp at h
  | _ :: _, [], _, _, h, _ => by simp at h
  | a :: al, u :: us, 0, x, _, _ => by simp [flatM]
  | a :: al, u :: us, k + 1, x, hl, hk => by
    have := flatM_put al us k x (by simpa using hl) (by simpa using hk)
    rw [show (k + 1) * 3 + 2 = k * 3 + 2 + 1 + 1 + 1 by omega]
    simp only [flatM, List.set_cons_succ, this]
set_option maxRecDepth 100000 in
set_option maxHeartbeats 4000000 in
theorem copyMods_any (v : Value) (al : List Md) (w : World) (h : ModsAt w v al) (hl : al.length ≤ 1000000000) (hv : ∀ x ∈ al, x.2.2.length ≤ 1000000000) :
    Calls Tryd.prog 42 #[v] w fun e w' => (∃ v' us, e = .returned v' ∧ OwnM w.heap.size w' v' al us) ∧ Below w.heap.size w w' := by
  obtain ⟨i0, hi0, hz0, hz1, hz2⟩ := info_parts Tryd.infoMod
  have H := Lib.hid h
  have HV := Lib.hid hv
  clear hv
  obtain ⟨a, cap, rfl, hc, hr⟩ := h
  cases a with
  | none =>
    have hnil : al = [] := by
      rcases Classical.em (al = []) with h | h
      · exact h
      · obtain ⟨g, o, ha, _⟩ := hr h; cases ha
    subst hnil
    go_enter Tryd.func42, Tryd.ntmps42
    go_wp2_with (at_builtin; refine wpList_append_voidB rfl (.const (.slice none 0 0)) (.tmp 4) 23 rfl w.heap.size 53 i0 3 Tryd.underlying23 hi0 (.slice none 0 0) 0 [] rfl (World.ownsRow_nil _ _ _ _) cap rfl ?_)
    go_loopw [3] (fun i wr => i = .int .i64 0 ∧ wr = w) (fun _ _ => 0)
    case atStart => exact ⟨rfl, rfl⟩
    case round =>
      obtain ⟨rfl, rfl⟩ := hrel
      go_wp2_with fail
      go_ret
      exact ⟨⟨_, [], rfl, World.ownsRow_nil _ _ _ _, rfl, fun j x u h => by simp at h⟩, Below.refl _ _⟩
  | some ad =>
    obtain ⟨us, hul, hcl, hone, hst⟩ := H.out.us
    have HC := Lib.hid hcl
    have HO := Lib.hid hone
    have HS := Lib.hid hst
    clear hr hcl hone hst
    have hfl := flatM_length al us hul
    go_enter Tryd.func42, Tryd.ntmps42
    go_wp2_with (at_builtin; refine wpList_append_own _ rfl (.const (.slice none 0 0)) (.tmp 4) 23 rfl w.heap.size 53 i0 (.agg #[.int .i64 0, .string ⟨#[]⟩, .slice none 0 0]) 3 48 Tryd.underlying23 hi0 hz0 hz1 hz2 rfl (by decide) (.slice none 0 0) 0 [] rfl (World.ownsRow_nil _ _ _ _) ad al.length cap (flatM al us) rfl hfl HC.out HO.out ?d3 ?d4 (Nat.le_refl _) ?_)
    case d3 => unfold maxLen; omega
    case d4 => omega
    intro v' w7 ho7 hg7 _
    have hb7 : Below w.heap.size w w7 := (Below.refl w.heap.size w).grown hg7 (Nat.le_refl _) (fun b hb => by cases hb)
    have HO7 := Lib.hid ho7
    clear ho7 hg7
    go_wp2_with fail
    go_loopw [3] (fun i wr => CmRel w al v' i wr) (fun i _ => al.length - (RowKit.intOf i).toNat)
    case atStart => exact ⟨0, us, rfl, by omega, by have := HO7.out; simpa using this, hul, hb7, fun j x u h => by omega, fun j x u _ h1 h2 => HS.out j x u h1 h2⟩
    case round =>
      clear HO7 hb7
      obtain ⟨k, us, rfl, hk, hown, hul, hbe, hdone, hleft⟩ := hrel
      by_cases hkl : k < al.length
      · obtain ⟨x, hx⟩ : ∃ x, al[k]? = some x := ⟨al[k], List.getElem?_eq_getElem hkl⟩
        obtain ⟨u, hu⟩ : ∃ u, us[k]? = some u := ⟨us[k]'(by omega), List.getElem?_eq_getElem (by omega)⟩
        obtain ⟨g, cap', cur, rfl, hbg, hgb, hcap'⟩ : ∃ g cap' cur, v' = .slice (some ⟨g, 0, none⟩) al.length cap' ∧ w.heap.size ≤ g ∧ wr.heap[g]? = some (.cells cur 53 (0, 0)) ∧ al.length ≤ cap' := by
          rcases id hown.2 with ⟨_, h0⟩ | ⟨g, cap', cur, h1, h2, h3, h4, _⟩
          · omega
          · exact ⟨g, cap', cur, h1, h2, h3, h4⟩
        obtain ⟨f0, fm, f1⟩ := flatM_get al us k x u hx hu
        obtain ⟨q0, _⟩ := own_cell hown f0
        obtain ⟨qm, _⟩ := own_cell hown fm
        obtain ⟨q1, _⟩ := own_cell hown f1
        have hxv := HV.out x (List.mem_of_getElem? hx)
        have kc := copyTexts_any u x.2.2 wr ((hleft k x u (Nat.le_refl _) hx hu).below hbe) hxv
        have i1 : (k : Int) < (al.length : Int) := by omega
        have i3 : decide ((k : Int) < (al.length : Int)) = true := decide_eq_true i1
        have HX := Lib.hid hx
        have HD := Lib.hid hdone
        have HL := Lib.hid hleft
        have hszr := hbe.size
        clear hx hu f0 fm f1 hdone hleft
        go_wp2_with fail
        refine Calls.mono (show Calls _ _ _ _ _ from kc) ?_
        rintro e w5 ⟨⟨u5, rfl, hu5⟩, hb5⟩
        obtain ⟨a5, cp5, h5f⟩ := own_shape hu5
        subst h5f
        have hown5 := own_below hown hb5
        have hgb5 := (hb5.block g (Array.getElem?_eq_some_iff.1 hgb).1).trans hgb
        obtain ⟨q2, q3⟩ := own_cell hown5 (show (flatM al us)[k * 3 + 2]? = _ from (List.getElem?_eq_getElem (by rw [flatM_length al us hul]; omega)))
        have hset := own_set (x := (.slice a5 x.2.2.length cp5)) hown5 (show k * 3 + 2 < (flatM al us).length by rw [flatM_length al us hul]; omega)
        rw [flatM_put al us k (.slice a5 x.2.2.length cp5) hul hkl] at hset
        have hb6 : Below w.heap.size w (w5.setCell ⟨g, k * 3 + 2, none⟩ (.slice a5 x.2.2.length cp5)) := (below_ext hbe hb5).setCell (p := ⟨g, k * 3 + 2, none⟩) hbg _
        have HS6 := Lib.hid hset
        have HB6 := Lib.hid hb6
        have hdone6 : ∀ (j : Nat) (y : Md) (v : Value), j < k + 1 → al[j]? = some y → (us.set k (.slice a5 x.2.2.length cp5))[j]? = some v → (w5.setCell ⟨g, k * 3 + 2, none⟩ (.slice a5 x.2.2.length cp5)).ownsRow w.heap.size 9 1 v y.2.2.length (sV y.2.2) := by
          intro j y v hj hy hv
          by_cases hjk : j = k
          · subst hjk
            rw [List.getElem?_set_self (by omega)] at hv
            cases hv
            rw [HX.out] at hy
            cases hy
            exact set_kept (own_mono hu5 hszr) hgb5 (by decide)
          · rw [List.getElem?_set_ne (fun e => hjk e.symm)] at hv
            exact set_kept (own_below (HD.out j y v (by omega) hy hv) hb5) hgb5 (by decide)
        have hleft6 : ∀ (j : Nat) (y : Md) (v : Value), k + 1 ≤ j → al[j]? = some y → (us.set k (.slice a5 x.2.2.length cp5))[j]? = some v → StrsAt w v y.2.2 := by
          intro j y v hj hy hv
          rw [List.getElem?_set_ne (by omega)] at hv
          exact HL.out j y v (by omega) hy hv
        have HD6 := Lib.hid hdone6
        have HL6 := Lib.hid hleft6
        clear hset hb6 hdone6 hleft6 hu5 kc q0 q1
        go_wp2_with fail
        exact ⟨⟨k + 1, us.set k (.slice a5 x.2.2.length cp5), by go_num, by omega, HS6.out, by rw [List.length_set]; exact hul, HB6.out, HD6.out, HL6.out⟩, by simp [RowKit.intOf]; omega⟩
      · obtain rfl : k = al.length := by omega
        obtain ⟨av, cv, hvf⟩ := own_shape hown
        subst hvf
        have HD := Lib.hid hdone
        clear hdone hleft
        go_wp2_with fail
        go_ret
        exact ⟨⟨_, us, rfl, hown, hul, fun j x u h1 h2 => HD.out j x u (List.getElem?_eq_some_iff.1 h1).1 h1 h2⟩, hbe⟩
end Go.Proofs.YtehpdodjncabkaaDoor
