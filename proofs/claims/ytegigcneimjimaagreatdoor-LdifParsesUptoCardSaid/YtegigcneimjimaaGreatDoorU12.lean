/- BkC, Rng, LdW. -/
import Derived.RangeFuncNested
import Derived.RangeFuncBound
import Derived.RangeFuncCalls
import Derived.RangeFuncLeaves
import Derived.Shelf.Abstract
import Derived.Shelf.RegionOpen
import Derived.OwnWalkIn
import Derived.TacticsInMore
import Derived.LoopNIn
import Derived.LoopIn
import Derived.Test.YtegigcneimjimaaGreatDoorU8
import Derived.Test.YtegigcneimjimaaGreatDoorU11
namespace Go.Proofs.YtegigcneimjimaaGreatDoor
open Go.RowKit Go.Lib
open Go.RowKit Go.Lib Go.Shelf
set_option maxRecDepth 100000
set_option maxHeartbeats 16000000
def OwnM (B : Nat) (w : World) (v : Value) (al : List Md) (us : List Value) : Prop :=
  w.ownsRow B 182 3 v al.length (flatM al us) ∧ us.length = al.length ∧ ∀ (j : Nat) (x : Md) (u : Value), al[j]? = some x → us[j]? = some u → w.ownsRow B 9 1 u x.2.2.length (sV x.2.2)
theorem flatM_all (P : Nat → Value → Prop) : ∀ (al : List Md) (us : List Value) (o : Nat), us.length = al.length → (∀ (j : Nat) (x : Md) (u : Value), al[j]? = some x → us[j]? = some u → P (o + j * 3) (.int .i64 x.1) ∧ P (o + j * 3 + 1) (.string ⟨x.2.1.toArray⟩) ∧ P (o + j * 3 + 2) u) → ∀ (i : Nat) (y : Value), (flatM al us)[i]? = some y → P (o + i) y
  | [], _, _, _, _, i, y, h => by simp [flatM] at h
  | _ :: _, [], _, hl, _, _, _, _ => by simp at hl
  | a :: al, u :: us, o, hl, hp, i, y, h => by
    have h0 := hp 0 a u rfl rfl
    match i, h with
    | 0, h => simp only [flatM, List.getElem?_cons_zero, Option.some.injEq] at h; subst h; simpa using h0.1
    | 1, h => simp only [flatM, List.getElem?_cons_succ, List.getElem?_cons_zero, Option.some.injEq] at h; subst h; simpa using h0.2.1
    | 2, h => simp only [flatM, List.getElem?_cons_succ, List.getElem?_cons_zero, Option.some.injEq] at h; subst h; simpa using h0.2.2
    | i + 3, h =>
      simp only [flatM, List.getElem?_cons_succ] at h
      have := flatM_all P al us (o + 3) (by simpa using hl) (fun j x v h1 h2 => by
        have := hp (j + 1) x v (by simpa using h1) (by simpa using h2)
        rw [show o + (j + 1) * 3 = o + 3 + j * 3 by omega] at this
        exact this) i y h
      rw [show o + (i + 3) = o + 3 + i by omega]
      exact this
theorem ModsAt.us {w : World} {ad : Addr} {n cap : Nat} {al : List Md} (h : ModsAt w (.slice (some ad) n cap) al) : ∃ us : List Value, us.length = al.length ∧ (∀ i y, (flatM al us)[i]? = some y → w.cell? (ad.add i) = some y) ∧ (∀ u ∈ flatM al us, u.oneCell' = true) ∧
    ∀ (j : Nat) (x : Md) (u : Value), al[j]? = some x → us[j]? = some u → StrsAt w u x.2.2 := by
  obtain ⟨a, c, e, _, hr⟩ := h
  rcases Classical.em (al = []) with h0 | h0
  · subst h0
    exact ⟨[], rfl, fun i y h => by simp [flatM] at h, fun u hu => by simp [flatM] at hu, fun j x u h => by simp at h⟩
  · obtain ⟨g, o, ha, hcell⟩ := hr h0
    simp only [Value.slice.injEq] at e
    obtain ⟨e1, _, _⟩ := e
    rw [ha] at e1
    cases e1
    have each : ∀ j, ∃ u, ∀ x, al[j]? = some x → w.cell? ⟨g, o + j * 3, none⟩ = some (.int .i64 x.1) ∧ w.cell? ⟨g, o + j * 3 + 1, none⟩ = some (.string ⟨x.2.1.toArray⟩) ∧ w.cell? ⟨g, o + j * 3 + 2, none⟩ = some u ∧ StrsAt w u x.2.2 := by
      intro j
      cases hj : al[j]? with
      | none => exact ⟨.slice none 0 0, fun x h => by cases h⟩
      | some x =>
        obtain ⟨h1, h2, u, h3, h4⟩ := hcell j x hj
        exact ⟨u, fun y hy => by cases hy; exact ⟨h1, h2, h3, h4⟩⟩
    let f := fun j => Classical.choose (each j)
    have hf : ∀ j x, al[j]? = some x → w.cell? ⟨g, o + j * 3, none⟩ = some (.int .i64 x.1) ∧ w.cell? ⟨g, o + j * 3 + 1, none⟩ = some (.string ⟨x.2.1.toArray⟩) ∧ w.cell? ⟨g, o + j * 3 + 2, none⟩ = some (f j) ∧ StrsAt w (f j) x.2.2 := fun j => Classical.choose_spec (each j)
    have hus : ∀ j u, ((List.range al.length).map f)[j]? = some u → u = f j := by
      intro j u h
      have hj := (List.getElem?_eq_some_iff.1 h).1
      simp only [List.length_map, List.length_range] at hj
      rw [List.getElem?_map, List.getElem?_range hj] at h
      cases h
      rfl
    refine ⟨(List.range al.length).map f, by simp, ?_, ?_, ?_⟩
    · intro i y h
      have := flatM_all (fun i y => w.cell? ⟨g, o + i, none⟩ = some y) al _ 0 (by simp) (fun j x u h1 h2 => by
        rw [hus j u h2]
        obtain ⟨q1, q2, q3, _⟩ := hf j x h1
        rw [Nat.zero_add]
        exact ⟨q1, q2, q3⟩) i y h
      rw [Addr.add_lit]
      rw [Nat.zero_add] at this
      exact this
    · have := flatM_all (fun _ y => y.oneCell' = true) al ((List.range al.length).map f) 0 (by simp) (fun j x u h1 h2 => by
        rw [hus j u h2]
        obtain ⟨_, _, _, q3⟩ := hf j x h1
        obtain ⟨a, c, e, _⟩ := q3
        exact ⟨rfl, rfl, by rw [e]; rfl⟩)
      intro u hu
      obtain ⟨i, hi⟩ := List.getElem?_of_mem hu
      exact this i u hi
    · intro j x u h1 h2
      rw [hus j u h2]
      exact (hf j x h1).2.2.2
def CmRel (w : World) (al : List Md) (v i : Value) (wr : World) : Prop :=
  ∃ (k : Nat) (us : List Value), i = .int .i64 (k : Int) ∧ k ≤ al.length ∧ wr.ownsRow w.heap.size 182 3 v al.length (flatM al us) ∧ us.length = al.length ∧ Below w.heap.size w wr ∧
    (∀ (j : Nat) (x : Md) (u : Value), j < k → al[j]? = some x → us[j]? = some u → wr.ownsRow w.heap.size 9 1 u x.2.2.length (sV x.2.2)) ∧
    (∀ (j : Nat) (x : Md) (u : Value), k ≤ j → al[j]? = some x → us[j]? = some u → StrsAt w u x.2.2)
theorem flatM_put : ∀ (al : List Md) (us : List Value) (k : Nat) (x : Value), us.length = al.length → k < al.length → (flatM al us).set (k * 3 + 2) x = flatM al (us.set k x)
  | [], _, _, _, _, h => by simp at h
  | _ :: _, [], _, _, h, _ => by simp at h
  | a :: al, u :: us, 0, x, _, _ => by simp [flatM]
  | a :: al, u :: us, k + 1, x, hl, hk => by
    have := flatM_put al us k x (by simpa using hl) (by simpa using hk)
    rw [show (k + 1) * 3 + 2 = k * 3 + 2 + 1 + 1 + 1 by omega]
    simp only [flatM, List.set_cons_succ, this]
theorem copyMods_any (v : Value) (al : List Md) (w : World) (h : ModsAt w v al) (hl : al.length ≤ 1000000000) (hv : ∀ x ∈ al, x.2.2.length ≤ 1000000000) :
    Calls Tryz.prog 239 #[v] w fun e w' => (∃ v' us, e = .returned v' ∧ OwnM w.heap.size w' v' al us) ∧ Below w.heap.size w w' := by
  obtain ⟨i0, hi0, hz0, hz1, hz2⟩ := info_parts Tryz.infoMod
  have H := Lib.hid h
  have HV := Lib.hid hv
  clear hv
  obtain ⟨a, cap, rfl, hc, hr⟩ := h
  cases a with
  | none =>
    have hnil : al = [] := by
      rcases Classical.em (al = []) with h | h
      · exact h
      · obtain ⟨g, o, ha, _⟩ := hr h; cases ha
    subst hnil
    go_enter Tryz.func239, Tryz.ntmps239
    go_wp2_with (at_builtin; refine wpList_append_voidB rfl (.const (.slice none 0 0)) (.tmp 4) 45 rfl w.heap.size 182 i0 3 Tryz.underlying45 hi0 (.slice none 0 0) 0 [] rfl (World.ownsRow_nil _ _ _ _) cap rfl ?_)
    go_loopw [3] (fun i wr => i = .int .i64 0 ∧ wr = w) (fun _ _ => 0)
    case atStart => exact ⟨rfl, rfl⟩
    case round =>
      obtain ⟨rfl, rfl⟩ := hrel
      go_wp2_with fail
      go_ret
      exact ⟨⟨_, [], rfl, World.ownsRow_nil _ _ _ _, rfl, fun j x u h => by simp at h⟩, Below.refl _ _⟩
  | some ad =>
    obtain ⟨us, hul, hcl, hone, hst⟩ := H.out.us
    have HC := Lib.hid hcl
    have HO := Lib.hid hone
    have HS := Lib.hid hst
    clear hr hcl hone hst
    have hfl := flatM_length al us hul
    go_enter Tryz.func239, Tryz.ntmps239
    go_wp2_with (at_builtin; refine wpList_append_own _ rfl (.const (.slice none 0 0)) (.tmp 4) 45 rfl w.heap.size 182 i0 (.agg #[.int .i64 0, .string ⟨#[]⟩, .slice none 0 0]) 3 48 Tryz.underlying45 hi0 hz0 hz1 hz2 rfl (by decide) (.slice none 0 0) 0 [] rfl (World.ownsRow_nil _ _ _ _) ad al.length cap (flatM al us) rfl hfl HC.out HO.out ?d3 ?d4 (Nat.le_refl _) ?_)
    case d3 => unfold maxLen; omega
    case d4 => omega
    intro v' w7 ho7 hg7 _
    have hb7 : Below w.heap.size w w7 := (Below.refl w.heap.size w).grown hg7 (Nat.le_refl _) (fun b hb => by cases hb)
    have HO7 := Lib.hid ho7
    clear ho7 hg7
    go_wp2_with fail
    go_loopw [3] (fun i wr => CmRel w al v' i wr) (fun i _ => al.length - (RowKit.intOf i).toNat)
    case atStart => exact ⟨0, us, rfl, by omega, by have := HO7.out; simpa using this, hul, hb7, fun j x u h => by omega, fun j x u _ h1 h2 => HS.out j x u h1 h2⟩
    case round =>
      clear HO7 hb7
      obtain ⟨k, us, rfl, hk, hown, hul, hbe, hdone, hleft⟩ := hrel
      by_cases hkl : k < al.length
      · obtain ⟨x, hx⟩ : ∃ x, al[k]? = some x := ⟨al[k], List.getElem?_eq_getElem hkl⟩
        obtain ⟨u, hu⟩ : ∃ u, us[k]? = some u := ⟨us[k]'(by omega), List.getElem?_eq_getElem (by omega)⟩
        obtain ⟨g, cap', cur, rfl, hbg, hgb, hcap'⟩ : ∃ g cap' cur, v' = .slice (some ⟨g, 0, none⟩) al.length cap' ∧ w.heap.size ≤ g ∧ wr.heap[g]? = some (.cells cur 182 (0, 0)) ∧ al.length ≤ cap' := by
          rcases id hown.2 with ⟨_, h0⟩ | ⟨g, cap', cur, h1, h2, h3, h4, _⟩
          · omega
          · exact ⟨g, cap', cur, h1, h2, h3, h4⟩
        obtain ⟨f0, fm, f1⟩ := flatM_get al us k x u hx hu
        obtain ⟨q0, _⟩ := own_cell hown f0
        obtain ⟨qm, _⟩ := own_cell hown fm
        obtain ⟨q1, _⟩ := own_cell hown f1
        have hxv := HV.out x (List.mem_of_getElem? hx)
        have kc := copyTexts_any u x.2.2 wr ((hleft k x u (Nat.le_refl _) hx hu).below hbe) hxv
        have i1 : (k : Int) < (al.length : Int) := by omega
        have i3 : decide ((k : Int) < (al.length : Int)) = true := decide_eq_true i1
        have HX := Lib.hid hx
        have HD := Lib.hid hdone
        have HL := Lib.hid hleft
        have hszr := hbe.size
        clear hx hu f0 fm f1 hdone hleft
        go_wp2_with fail
        refine Calls.mono (show Calls _ _ _ _ _ from kc) ?_
        rintro e w5 ⟨⟨u5, rfl, hu5⟩, hb5⟩
        obtain ⟨a5, cp5, h5f⟩ := own_shape hu5
        subst h5f
        have hown5 := own_below hown hb5
        have hgb5 := (hb5.block g (Array.getElem?_eq_some_iff.1 hgb).1).trans hgb
        obtain ⟨q2, q3⟩ := own_cell hown5 (show (flatM al us)[k * 3 + 2]? = _ from (List.getElem?_eq_getElem (by rw [flatM_length al us hul]; omega)))
        have hset := own_set (x := (.slice a5 x.2.2.length cp5)) hown5 (show k * 3 + 2 < (flatM al us).length by rw [flatM_length al us hul]; omega)
        rw [flatM_put al us k (.slice a5 x.2.2.length cp5) hul hkl] at hset
        have hb6 : Below w.heap.size w (w5.setCell ⟨g, k * 3 + 2, none⟩ (.slice a5 x.2.2.length cp5)) := (below_ext hbe hb5).setCell (p := ⟨g, k * 3 + 2, none⟩) hbg _
        have HS6 := Lib.hid hset
        have HB6 := Lib.hid hb6
        have hdone6 : ∀ (j : Nat) (y : Md) (v : Value), j < k + 1 → al[j]? = some y → (us.set k (.slice a5 x.2.2.length cp5))[j]? = some v → (w5.setCell ⟨g, k * 3 + 2, none⟩ (.slice a5 x.2.2.length cp5)).ownsRow w.heap.size 9 1 v y.2.2.length (sV y.2.2) := by
          intro j y v hj hy hv
          by_cases hjk : j = k
          · subst hjk
            rw [List.getElem?_set_self (by omega)] at hv
            cases hv
            rw [HX.out] at hy
            cases hy
            exact set_kept (own_mono hu5 hszr) hgb5 (by decide)
          · rw [List.getElem?_set_ne (fun e => hjk e.symm)] at hv
            exact set_kept (own_below (HD.out j y v (by omega) hy hv) hb5) hgb5 (by decide)
        have hleft6 : ∀ (j : Nat) (y : Md) (v : Value), k + 1 ≤ j → al[j]? = some y → (us.set k (.slice a5 x.2.2.length cp5))[j]? = some v → StrsAt w v y.2.2 := by
          intro j y v hj hy hv
          rw [List.getElem?_set_ne (by omega)] at hv
          exact HL.out j y v (by omega) hy hv
        have HD6 := Lib.hid hdone6
        have HL6 := Lib.hid hleft6
        clear hset hb6 hdone6 hleft6 hu5 kc q0 q1
        go_wp2_with fail
        exact ⟨⟨k + 1, us.set k (.slice a5 x.2.2.length cp5), by go_num, by omega, HS6.out, by rw [List.length_set]; exact hul, HB6.out, HD6.out, HL6.out⟩, by simp [RowKit.intOf]; omega⟩
      · obtain rfl : k = al.length := by omega
        obtain ⟨av, cv, hvf⟩ := own_shape hown
        subst hvf
        have HD := Lib.hid hdone
        clear hdone hleft
        go_wp2_with fail
        go_ret
        exact ⟨⟨_, us, rfl, hown, hul, fun j x u h1 h2 => HD.out j x u (List.getElem?_eq_some_iff.1 h1).1 h1 h2⟩, hbe⟩
structure Outside (T : Nat → Prop) (w w' : World) : Prop where
  os : w'.os = w.os
  tape : w'.tape = w.tape
  output : w'.output = w.output
  size : w.heap.size ≤ w'.heap.size
  block : ∀ k, k < w.heap.size → ¬ T k → w'.heap[k]? = w.heap[k]?
theorem Outside.put {T : Nat → Prop} (w : World) (l : Nat) (o : Obj) (h : T l) : Outside T w (w.putObj l o) :=
  ⟨rfl, rfl, rfl, Nat.le_of_eq (by simp), fun k _ hk => World.putObj_heap_other (fun e => hk (e ▸ h))⟩
theorem Outside.mono {T T' : Nat → Prop} {w w' : World} (h : Outside T w w') (hT : ∀ k, T k → T' k) : Outside T' w w' := ⟨h.os, h.tape, h.output, h.size, fun k hk hn => h.block k hk (fun e => hn (hT k e))⟩
theorem Outside.of_below {T : Nat → Prop} {w w' : World} (h : Below w.heap.size w w') : Outside T w w' := ⟨h.os, h.tape, h.output, h.size, fun k hk _ => h.block k hk⟩
theorem Outside.trans {T : Nat → Prop} {a b c : World} (h : Outside T a b) (k : Outside T b c) : Outside T a c :=
  ⟨k.os.trans h.os, k.tape.trans h.tape, k.output.trans h.output, Nat.le_trans h.size k.size, fun j hj hn => (k.block j (Nat.lt_of_lt_of_le hj h.size) hn).trans (h.block j hj hn)⟩
def Yd (P : Program) (l : Nat) (args : Array Value) (W : World) (R : Ending → World → Prop) : Prop := ∀ m, YieldAt Fence.wide m P l args W R
def Mine (lo hi : Nat) (E : Nat → Prop) (k : Nat) : Prop := (lo ≤ k ∧ k < hi) ∨ E k
def Gives {α : Type} (P : Program) (g : Nat) (lb : Array Value) (encs : α → Array Value) (E G : Nat → Prop) (xs : List α) (w : World) : Prop :=
  ∀ (l : Nat) (J : Nat → List α → World → Prop) (W : World), Below w.heap.size w W →
    (∀ hi W', W.heap.size ≤ hi → hi ≤ W'.heap.size → Below W.heap.size W W' → J hi [] W') →
    (∀ hi pre W1 W2, W.heap.size ≤ hi → J hi pre W1 → Outside (Mine W.heap.size hi E) W1 W2 → J hi pre W2) →
    (∀ hi pre x W1, W.heap.size ≤ hi → hi ≤ W1.heap.size → pre ++ [x] <+: xs → J hi pre W1 → Yd P l (encs x) W1 fun e W' =>
      e = .returned (.bool true) ∧ J hi (pre ++ [x]) W' ∧ W1.heap.size ≤ W'.heap.size ∧ ∀ k, Mine W.heap.size hi E k ∨ G k → W'.heap[k]? = W1.heap[k]?) →
    ∀ n, CallsIn Fence.wide n P g (#[.func (.yield l) #[] #[]] ++ lb) W fun e W' => (∃ v, e = .returned v) ∧ ∃ hi, W.heap.size ≤ hi ∧ J hi xs W'
def onPost (R : World → Prop) : Exit → Act → World → Prop
  | .normal, _, W => R W
  | _, _, _ => False
theorem range_gives {α : Type} {P : Program} {n : Nat} {g : Operand} {ps : Array Tmp} {assign body : Code} {Q : Exit → Act → World → Prop} {a : Act} {w : World}
    (h1 : 1 ≤ n) {gf : Nat} {lb : Array Value} (hg : a.eval g = .func (.func gf) #[] lb) (eg : ∀ args w, (callFunc gf args).run P w = .ok (.enter gf args) w)
    {encs : α → Array Value} {E G : Nat → Prop} {xs : List α} {w0 : World} (hseq : Gives P gf lb encs E G xs w0) (hb0 : Below w0.heap.size w0 w) (hE : ∀ k, E k → k < w.heap.size) (hG : ∀ k, G k → k < w.heap.size) (hps : ∀ x, (encs x).size = ps.size)
    (I : Nat → List α → World → Prop)
    (hI0 : ∀ hi W', w.heap.size + 2 ≤ hi → hi ≤ W'.heap.size → Below w.heap.size w W' → I hi [] W')
    (hIc : ∀ hi pre W1 W2, w.heap.size + 2 ≤ hi → I hi pre W1 → Outside (Mine w.heap.size hi E) W1 W2 → I hi pre W2)
    (Ax : Nat → List α → α → Act → World → Prop) (hAc : ∀ hi pre x a' W1 W2, w.heap.size + 2 ≤ hi → Ax hi pre x a' W1 → Outside (Mine w.heap.size hi E) W1 W2 → Ax hi pre x a' W2)
    (hassign : ∀ m hi pre x W (K : Act → World → Prop), w.heap.size + 2 ≤ hi → hi ≤ W.heap.size → pre ++ [x] <+: xs → I hi pre W →
      (∀ a' W', Ax hi pre x a' W' → W.heap.size ≤ W'.heap.size → (∀ k, Mine w.heap.size hi E k ∨ G k → W'.heap[k]? = W.heap[k]?) → K a' W') →
      assign.wpIn (Fence.wide.inRound (w.heap.size + 1)) m P (Exit.then K (fun _ _ _ => False)) { tmps := (ps.zip (encs x)).foldl (fun t (p, v) => t.setIfInBounds p v) a.tmps, defers := [] } W)
    (hbody : ∀ m hi pre x a' W, w.heap.size + 2 ≤ hi → hi ≤ W.heap.size → pre ++ [x] <+: xs → Ax hi pre x a' W →
      body.wpIn (Fence.wide.inRound (w.heap.size + 1)) m P (onPost (fun W' => I hi (pre ++ [x]) W' ∧ W.heap.size ≤ W'.heap.size ∧ ∀ k, Mine w.heap.size hi E k ∨ G k → W'.heap[k]? = W.heap[k]?)) a' W)
    (hdone : ∀ hi W, w.heap.size + 2 ≤ hi → I hi xs W → W.heap[w.heap.size]? = some (.deferred (some [])) → Q .normal { a with defers := { target := .collected w.heap.size, args := #[] } :: a.defers } W) :
    (Code.rangeFunc g ps assign body).wpIn Fence.wide n P Q a w := by
  refine wpIn_rangeFunc ?_
  intro fn hfn
  rw [show Fence.wide.round = none from rfl]
  obtain ⟨rec, hrec⟩ : ∃ rec : LoopState → Loop, rec = fun st => { state := st, pending := none, fn, tmps := a.tmps, params := ps, assign, body, defers := w.heap.size } := ⟨_, rfl⟩
  obtain ⟨W1, hW1⟩ : ∃ W1, (w.alloc (.deferred (some []))).alloc (.loop (rec .ready)) = W1 := ⟨_, rfl⟩
  have hsz : W1.heap.size = w.heap.size + 2 := by rw [← hW1]; simp
  have hL1 : W1.heap[w.heap.size + 1]? = some (.loop (rec .ready)) := by
    rw [← hW1]; have := World.alloc_heap_new (w.alloc (.deferred (some []))) (.loop (rec .ready)); rwa [World.size_alloc] at this
  have hK1 : W1.heap[w.heap.size]? = some (.deferred (some [])) := by
    rw [← hW1]; exact (Below.heap_alloc _ _ _ (by simp)).trans (World.alloc_heap_new w _)
  have hbw : Below w.heap.size w W1 := by
    rw [← hW1]; exact ((Below.refl _ w).alloc (Nat.le_refl _) _).alloc (by simp) _
  refine ⟨w.heap.size + 1, [{ target := .collected w.heap.size, args := #[] }], W1, { target := .fn (.func gf) lb, args := #[.func (.yield (w.heap.size + 1)) #[] #[]] }, W1, gf,
    #[.func (.yield (w.heap.size + 1)) #[] #[]] ++ lb, W1, ?_, ?_, ?_, ?_, fun _ => h1, ?_⟩
  · rw [← hW1, hrec]; exact run_enterLoop_outer _ _ _ _ _
  · simp only [resolve, hg]
    simp [go_sem]
  · intro _ _; trivial
  · simp [invoke, go_sem, eg]
  · have hsub : ∀ hi k, Mine W1.heap.size hi E k → Mine w.heap.size hi E k := fun hi k h => by
      rcases h with h | h
      · exact .inl ⟨by omega, h.2⟩
      · exact .inr h
    have hnot : ∀ hi k, w.heap.size ≤ k → k < w.heap.size + 2 → ¬ Mine W1.heap.size hi E k := fun hi k h1 h2 h => by
      rcases h with h | h
      · omega
      · have := hE k h; omega
    refine (hseq (w.heap.size + 1)
      (fun hi pre W => I hi pre W ∧ W.heap[w.heap.size + 1]? = some (.loop (rec .ready)) ∧ W.heap[w.heap.size]? = some (.deferred (some [])))
      W1 (hb0.trans (hbw.mono hb0.size)) ?_ ?_ ?_ (n - 1)).mono ?_
    · intro hi W' h2 h3 hb
      exact ⟨hI0 hi W' (by omega) h3 (hbw.trans (hb.mono hbw.size)), (hb.block _ (by omega)).trans hL1, (hb.block _ (by omega)).trans hK1⟩
    · rintro hi pre Wa Wb hhi ⟨hi1, hl, hk⟩ ho
      have hlt := (Array.getElem?_eq_some_iff.1 hl).1
      exact ⟨hIc hi pre Wa Wb (by omega) hi1 (ho.mono (hsub hi)), (ho.block _ hlt (hnot hi _ (by omega) (by omega))).trans hl, (ho.block _ (by omega) (hnot hi _ (by omega) (by omega))).trans hk⟩
    · rintro hi pre x W hhi hhW hpx ⟨hi1, hl, hk⟩ m
      rw [hsz] at hhi
      have hlt := (Array.getElem?_eq_some_iff.1 hl).1
      have hy := run_yield (P := P) (args := encs x) hl (by rw [hrec]; exact hps x)
      rw [hrec] at hy
      refine ⟨fn, _, assign, body, hy, roundIn_of_wpIn hfn (hassign m hi pre x W _ hhi hhW hpx hi1 ?_)⟩
      clear hy
      intro a' Wa hax hsa hTa
      have hMl : Mine w.heap.size hi E (w.heap.size + 1) := .inl ⟨by omega, by omega⟩
      have hMd : Mine w.heap.size hi E w.heap.size := .inl ⟨Nat.le_refl _, by omega⟩
      have hla := (hTa _ (.inl hMl)).trans hl
      have hka := (hTa _ (.inl hMd)).trans hk
      have hlta := (Array.getElem?_eq_some_iff.1 hla).1
      refine ⟨_, run_beginRound hla (by rw [hrec]), ?_⟩
      have hl2 : (Wa.putObj (w.heap.size + 1) (.loop { rec .ready with state := .busy })).heap[w.heap.size + 1]? = some (.loop { rec .ready with state := .busy }) := World.putObj_heap_same hlta
      have hk2 : (Wa.putObj (w.heap.size + 1) (.loop { rec .ready with state := .busy })).heap[w.heap.size]? = some (.deferred (some [])) := (World.putObj_heap_other (by omega)).trans hka
      have hax2 := hAc hi pre x a' _ _ hhi hax (Outside.put Wa (w.heap.size + 1) (.loop { rec .ready with state := .busy }) hMl)
      refine wpIn_mono (hbody m hi pre x a' _ hhi (by simp; omega) hpx hax2) ?_
      rintro e a3 W3 hp
      cases e with
      | normal =>
        obtain ⟨hi3, hs3, hT3⟩ := hp
        have hl3 := (hT3 _ (.inl hMl)).trans hl2
        have hk3 := (hT3 _ (.inl hMd)).trans hk2
        have hlt3 := (Array.getElem?_eq_some_iff.1 hl3).1
        have hend := run_endRound (P := P) none hl3
        refine ⟨_, _, hend, rfl, ⟨hIc hi _ _ _ hhi hi3 (Outside.put _ _ _ hMl), ?_, (World.putObj_heap_other (by omega)).trans hk3⟩, ?_, fun k hk' => ?_⟩
        · rw [World.putObj_heap_same hlt3, hrec]; rfl
        · simp at hs3 ⊢; omega
        · have hkne : k ≠ w.heap.size + 1 := fun e => by
            rcases hk' with hk' | hk'
            · exact hnot hi k (by omega) (by omega) hk'
            · have := hG k hk'
              omega
          have hk2' : Mine w.heap.size hi E k ∨ G k := hk'.imp (hsub hi k) id
          rw [World.putObj_heap_other hkne, hT3 k hk2', World.putObj_heap_other hkne, hTa k hk2']
      | ret => exact hp.elim
      | exit id => exact hp.elim
      | goto t => exact hp.elim
      | panic ch => exact hp.elim
      | outgrown => exact hp.elim
    · rintro e W2 ⟨⟨v, rfl⟩, hi, hhi, hi1, hl, hk⟩
      have hlt := (Array.getElem?_eq_some_iff.1 hl).1
      refine ⟨none, _, by have := run_endLoop (P := P) hl (by rw [hrec]; simp); rw [hrec] at this; exact this, hdone hi _ (by omega) (hIc hi _ _ _ (by omega) hi1 (Outside.put _ _ _ (.inl ⟨by omega, by omega⟩))) ((World.putObj_heap_other (by omega)).trans hk)⟩
attribute [local go_sem] Oper.semAt_some
theorem cutL_at : ∀ (s : List UInt8), (indexByte s 10 = -1 ∧ cutL s = [s]) ∨ ∃ i : Nat, indexByte s 10 = i ∧ i < s.length ∧ cutL s = s.take i :: cutL (s.drop (i + 1))
  | [] => .inl ⟨rfl, rfl⟩
  | c :: t => by
    by_cases hc : c = 10
    · subst hc
      exact .inr ⟨0, by simp [indexByte], by simp, by simp [cutL]⟩
    · have hcb : (c == 10) = false := by simpa using hc
      rcases cutL_at t with ⟨h1, h2⟩ | ⟨i, h1, h2, h3⟩
      · left
        refine ⟨by simp only [indexByte]; rw [if_neg (by simpa using hc), h1]; rfl, ?_⟩
        simp only [cutL]
        rw [if_neg hc, h2]
      · right
        refine ⟨i + 1, by simp only [indexByte]; rw [if_neg (by simpa using hc), h1, if_neg (by simp)]; rfl, by simp; omega, ?_⟩
        simp only [cutL]
        rw [if_neg hc, h3]
        simp
theorem ext_take (l : List UInt8) (i : Nat) : (⟨l.toArray⟩ : ByteArray).extract 0 i = ⟨(l.take i).toArray⟩ := by
  apply ByteArray.ext
  apply Array.ext'
  rw [Lib.extract_data]
  simp
theorem ext_drop (l : List UInt8) (i : Nat) : (⟨l.toArray⟩ : ByteArray).extract i l.length = ⟨(l.drop i).toArray⟩ := by
  apply ByteArray.ext
  apply Array.ext'
  rw [Lib.extract_data]
  show (l.drop i).take (l.length - i) = l.drop i
  rw [List.take_of_length_le (by rw [List.length_drop]; exact Nat.le_refl _)]
theorem Outside.put3 (w : World) (b : Nat) (v : Value) (T : Nat → Prop) (h : T b) : Outside T w (w.setCell ⟨b, 0, none⟩ v) :=
  ⟨rfl, rfl, rfl, Nat.le_of_eq (by simp), fun k _ hk => Below.heap_setCell w ⟨b, 0, none⟩ v k (fun e => hk (e ▸ h))⟩
def strN (b : Nat) (w : World) : Nat :=
  match w.cell? ⟨b, 0, none⟩ with
  | some (.string s) => s.size
  | _ => 0
theorem strN_at {b : Nat} {w : World} {s : List UInt8} (h : w.heap[b]? = some (.cells #[.string ⟨s.toArray⟩] 9 (0, 0))) : strN b w = s.length := by
  have : w.cell? ⟨b, 0, none⟩ = some (.string ⟨s.toArray⟩) := by rw [Lib.cell_of_heap h]; rfl
  simp [strN, this, ByteArray.size]
def SRel (pB sB vB hi : Nat) (text : List UInt8) (J : Nat → List (List UInt8) → World → Prop) (wr : World) : Prop :=
  ∃ (pre : List (List UInt8)) (rest : List UInt8), cutL text = pre ++ cutL rest ∧ rest.length ≤ 1000000000 ∧ wr.heap[sB]? = some (.cells #[.string ⟨rest.toArray⟩] 9 (0, 0)) ∧ wr.heap[pB]? = some (.cells #[.string ⟨#[10]⟩] 9 (0, 0)) ∧ wr.heap[vB]? = some (.cells #[.int .i64 0] 3 (0, 0)) ∧ J hi pre wr ∧ hi ≤ wr.heap.size
theorem split_gives (G : Nat → Prop) (pB sB vB : Nat) (text : List UInt8) (w : World) (hs : w.heap[sB]? = some (.cells #[.string ⟨text.toArray⟩] 9 (0, 0))) (hp : w.heap[pB]? = some (.cells #[.string ⟨#[10]⟩] 9 (0, 0))) (hv : w.heap[vB]? = some (.cells #[.int .i64 0] 3 (0, 0))) (hps : pB ≠ sB) (ht : text.length ≤ 1000000000) :
    Gives Tryz.prog 260 #[.pointer (some ⟨pB, 0, none⟩), .pointer (some ⟨sB, 0, none⟩), .pointer (some ⟨vB, 0, none⟩)] (fun x : List UInt8 => #[.string ⟨x.toArray⟩]) (fun k => k = pB ∨ k = sB ∨ k = vB) G (cutL text) w := by
  intro l J W hW hJ0 hJc hY n
  have hlt : ∀ k o, w.heap[k]? = some o → k < w.heap.size := fun k o h => (Array.getElem?_eq_some_iff.1 h).1
  have hs1 := (hW.block sB (hlt _ _ hs)).trans hs
  have hp1 := (hW.block pB (hlt _ _ hp)).trans hp
  have hv1 := (hW.block vB (hlt _ _ hv)).trans hv
  have hvs : vB ≠ sB := by
    rintro rfl
    rw [hs] at hv
    simp at hv
  refine callsIn_of_wp Tryz.func260 rfl trivial ?_ rfl
  simp only [Tryz.ntmps260, List.size_toArray, List.length_cons, List.length_nil, Nat.reduceAdd, Nat.reduceSub, Array.replicate_succ, Array.replicate_zero, List.push_toArray, List.append_toArray, List.nil_append, List.cons_append]
  have c1 : W.cell? ⟨pB, 0, none⟩ = some (.string ⟨#[10]⟩) := by rw [Lib.cell_of_heap hp1]; rfl
  gi_wp2
  clear c1
  gi_loopw [7, 8] (fun _ _ wr => SRel pB sB vB W.heap.size text J wr) (fun _ _ wr => strN sB wr)
  case atStart => exact ⟨[], text, rfl, ht, hs1, hp1, hv1, hJ0 _ _ (Nat.le_refl _) (Nat.le_refl _) (Below.refl _ _), Nat.le_refl _⟩
  case round =>
    obtain ⟨pre, rest, hcut, hrl, hs2, hp2, hv2, hJ, hsz⟩ := hrel
    clear hs1 hp1 hv1 hs hp hv
    have c1 : wr.cell? ⟨pB, 0, none⟩ = some (.string ⟨#[10]⟩) := by rw [Lib.cell_of_heap hp2]; rfl
    have c2 : wr.cell? ⟨sB, 0, none⟩ = some (.string ⟨rest.toArray⟩) := by rw [Lib.cell_of_heap hs2]; rfl
    have c3 : wr.cell? ⟨vB, 0, none⟩ = some (.int .i64 0) := by rw [Lib.cell_of_heap hv2]; rfl
    have f2 : wr.frozen? ⟨sB, 0, none⟩ = false := Lib.frozen_of_heap hs2 0
    have ki := Tryz.strings_Index_one ⟨rest.toArray⟩ 10 wr
    rcases cutL_at rest with ⟨h1, h2⟩ | ⟨i, h1, h2, h3⟩
    · rw [show (⟨rest.toArray⟩ : ByteArray).data.toList = rest from rfl, h1] at ki
      have i3 : decide ((-1 : Int) < 0) = true := by decide
      gi_wp2
      refine ⟨trivial, (fun h => by cases h), ?_⟩
      refine (callsIn_wide.2 ki).mono ?_
      rintro e w' ⟨rfl, hw'⟩
      subst hw'
      obtain ⟨f1, t1, a1, b1, hy1, hR1⟩ := hY W.heap.size pre rest w' (Nat.le_refl _) hsz ⟨[], by rw [hcut, h2]; simp⟩ hJ (n - 1)
      gi_wp2
      refine ⟨(fun h => by cases h), hR1.mono ?_⟩
      rintro e W3 ⟨rfl, hJ3, hsz3, hk3⟩
      gi_wp2
      go_end0
      exact ⟨⟨_, rfl⟩, W.heap.size, Nat.le_refl _, by rw [hcut, h2]; exact hJ3⟩
    · rw [show (⟨rest.toArray⟩ : ByteArray).data.toList = rest from rfl, h1] at ki
      have i1 : (0 : Int) ≤ (i : Int) := by omega
      have i2 : (i : Int) ≤ (rest.length : Int) := by omega
      have i3 : decide ((i : Int) < 0) = false := decide_eq_false (by omega)
      have i4 : (i : Int) + 1 ≤ (rest.length : Int) := by omega
      have i5 : (i : Int) ≤ 1000000000 := by omega
      gi_wp2
      refine ⟨trivial, (fun h => by cases h), ?_⟩
      refine (callsIn_wide.2 ki).mono ?_
      rintro e w' ⟨rfl, hw'⟩
      subst hw'
      obtain ⟨f1, t1, a1, b1, hy1, hR1⟩ := hY W.heap.size pre (rest.take i) w' (Nat.le_refl _) hsz ⟨cutL (rest.drop (i + 1)), by rw [hcut, h3]; simp⟩ hJ (n - 1)
      rw [← ext_take] at hy1
      gi_wp2
      refine ⟨(fun h => by cases h), hR1.mono ?_⟩
      rintro e W3 ⟨rfl, hJ3, hsz3, hk3⟩
      have hs3 := (hk3 sB (.inl (.inr (.inr (.inl rfl))))).trans hs2
      have hp3 := (hk3 pB (.inl (.inr (.inl rfl)))).trans hp2
      have hv3 := (hk3 vB (.inl (.inr (.inr (.inr rfl))))).trans hv2
      clear c1 c2 c3 f2
      have c1 : W3.cell? ⟨pB, 0, none⟩ = some (.string ⟨#[10]⟩) := by rw [Lib.cell_of_heap hp3]; rfl
      have c2 : W3.cell? ⟨sB, 0, none⟩ = some (.string ⟨rest.toArray⟩) := by rw [Lib.cell_of_heap hs3]; rfl
      have f2 : W3.frozen? ⟨sB, 0, none⟩ = false := Lib.frozen_of_heap hs3 0
      gi_wp2
      rw [ext_drop]
      have ho := Outside.put3 W3 sB (.string ⟨(rest.drop (i + 1)).toArray⟩) (Mine W.heap.size W.heap.size fun k => k = pB ∨ k = sB ∨ k = vB) (.inr (.inr (.inl rfl)))
      have hs4 := setCell_one (u := .string ⟨(rest.drop (i + 1)).toArray⟩) hs3
      refine ⟨⟨pre ++ [rest.take i], rest.drop (i + 1), by rw [hcut, h3]; simp, by simp; omega, hs4, (Below.heap_setCell W3 ⟨sB, 0, none⟩ _ pB hps).trans hp3, (Below.heap_setCell W3 ⟨sB, 0, none⟩ _ vB hvs).trans hv3, hJc _ _ _ _ (Nat.le_refl _) hJ3 ho, Nat.le_trans hsz (Nat.le_trans hsz3 ho.size)⟩, ?_⟩
      rw [strN_at hs4, strN_at hs2, List.length_drop]
      omega
end Go.Proofs.YtegigcneimjimaaGreatDoor
