/- dn's reader: a name. -/
import Derived.Test.YtegigcneimjimaaGreatDoorDnQ
import Derived.Maps.AppendAt
namespace Go.Proofs.YtegigcneimjimaaGreatDoor
open Go.RowKit Go.Lib

theorem Tryz.infoRdn : (Tryz.prog.info? 66).map (fun i => (i.zero, i.size, i.bytes)) = some (some (.slice none 0 0), 1, 24) := by kernel_rfl
/-- A part, a name as they lie. -/
def AvsAt (w : World) (v : Value) (r : List Av) : Prop :=
  ∃ a cap, v = .slice a r.length cap ∧ r.length ≤ cap ∧ (r ≠ [] → ∃ g o, a = some ⟨g, o, none⟩ ∧ ∀ j x, r[j]? = some x → w.cell? ⟨g, o + 2 * j, none⟩ = some (.string ⟨x.1.toArray⟩) ∧ w.cell? ⟨g, o + 2 * j + 1, none⟩ = some (.string ⟨x.2.toArray⟩))
def DnAt (w : World) (v : Value) (d : List (List Av)) : Prop :=
  ∃ a cap, v = .slice a d.length cap ∧ d.length ≤ cap ∧ (d ≠ [] → ∃ g o, a = some ⟨g, o, none⟩ ∧ ∀ j r, d[j]? = some r → ∃ u, w.cell? ⟨g, o + j, none⟩ = some u ∧ AvsAt w u r)
theorem AvsAt.below {w w' : World} {v : Value} {r : List Av} (h : AvsAt w v r) (hb : Below w.heap.size w w') : AvsAt w' v r := by
  obtain ⟨a, cap, hv, hc, hr⟩ := h
  refine ⟨a, cap, hv, hc, fun h0 => ?_⟩
  obtain ⟨g, o, ha, hcell⟩ := hr h0
  refine ⟨g, o, ha, fun j x hj => ?_⟩
  obtain ⟨c1, c2⟩ := hcell j x hj
  exact ⟨(hb.cell (lt_of_cell c1)).trans c1, (hb.cell (lt_of_cell c2)).trans c2⟩
theorem DnAt.below {w w' : World} {v : Value} {d : List (List Av)} (h : DnAt w v d) (hb : Below w.heap.size w w') : DnAt w' v d := by
  obtain ⟨a, cap, hv, hc, hr⟩ := h
  refine ⟨a, cap, hv, hc, fun h0 => ?_⟩
  obtain ⟨g, o, ha, hcell⟩ := hr h0
  refine ⟨g, o, ha, fun j x hj => ?_⟩
  obtain ⟨u, c1, c2⟩ := hcell j x hj
  exact ⟨u, (hb.cell (lt_of_cell c1)).trans c1, c2.below hb⟩
theorem Avs.at {B : Nat} {w : World} {v : Value} {r : List Av} (h : Avs B w v r) : AvsAt w v r := by
  obtain ⟨g, cap, hv, _, _, hc, hcell⟩ := h.form
  exact ⟨_, cap, hv, hc, fun _ => ⟨g, 0, rfl, fun j x hj => by rw [Nat.zero_add]; exact hcell j x hj⟩⟩
/-- Values that stand for parts. -/
def All (B : Nat) (w : World) (vs : List Value) (d : List (List Av)) : Prop := vs.length = d.length ∧ ∀ (j : Nat) (r : List Av), d[j]? = some r → ∃ u, vs[j]? = some u ∧ Avs B w u r
theorem All.kept {b B : Nat} {w w' : World} {vs : List Value} {d : List (List Av)} (h : All B w vs d) (hk : Kept b w w') (hb : b < B) : All B w' vs d :=
  ⟨h.1, fun j r hj => by obtain ⟨u, h1, h2⟩ := h.2 j r hj; exact ⟨u, h1, h2.kept hk hb⟩⟩
theorem All.snoc {B : Nat} {w : World} {vs : List Value} {d : List (List Av)} {v : Value} {p : List Av} (h : All B w vs d) (hp : Avs B w v p) : All B w (vs ++ [v]) (d ++ [p]) := by
  refine ⟨by simp [h.1], fun j r hj => ?_⟩
  rcases Nat.lt_or_ge j d.length with hl | hl
  · rw [List.getElem?_append_left hl] at hj
    obtain ⟨u, h1, h2⟩ := h.2 j r hj
    exact ⟨u, by rw [List.getElem?_append_left (by rw [h.1]; exact hl)]; exact h1, h2⟩
  · rw [List.getElem?_append_right hl] at hj
    have hj0 : j - d.length = 0 := by
      rcases Nat.eq_zero_or_pos (j - d.length) with h' | h'
      · exact h'
      · rw [List.getElem?_eq_none (by simp; omega)] at hj; cases hj
    rw [hj0] at hj
    simp at hj
    subst hj
    exact ⟨v, by rw [List.getElem?_append_right (by rw [h.1]; exact hl), h.1, hj0]; rfl, hp⟩
/-- The blocks of the parts are others than the row's. -/
def Off (vs : List Value) (v : Value) : Prop := ∀ u ∈ vs, ∀ k, v.ownBlock = some k → u.ownBlock ≠ some k
theorem Avs.mono {B B' : Nat} {w : World} {v : Value} {r : List Av} (h : Avs B' w v r) (hB : B ≤ B') : Avs B w v r := ⟨h.1, ownMono h.2 hB⟩
theorem All.lt {B : Nat} {w : World} {vs : List Value} {d : List (List Av)} (h : All B w vs d) {u : Value} (hu : u ∈ vs) : ∃ g, u.ownBlock = some g ∧ g < w.heap.size := by
  obtain ⟨j, hj⟩ := List.getElem?_of_mem hu
  have hl : j < d.length := by rw [← h.1]; exact (List.getElem?_eq_some_iff.1 hj).1
  obtain ⟨u', h1, hA⟩ := h.2 j d[j] (List.getElem?_eq_getElem hl)
  obtain ⟨g, cap, hv, _, hg, _⟩ := hA.form
  rw [hj] at h1
  cases h1
  exact ⟨g, by rw [hv]; rfl, hg⟩
def rNameK (f : Nat) (u : List UInt8) (o : List (List Av)) : Option (List (List Av)) := match u with
  | 44 :: u' => rName f u' o
  | [] => some o
  | _ => none
theorem rName_step (f : Nat) (r : List UInt8) (o : List (List Av)) : rName (f + 1) r o = match rPart (r.length + 1) r [] with | none => none | some (p, u) => rNameK f u (o ++ [p]) := by
  rw [rName]
  cases rPart (r.length + 1) r [] with
  | none => rfl
  | some p => obtain ⟨a, u⟩ := p; rfl
theorem All.grown {B : Nat} {w w' : World} {vs : List Value} {d : List (List Av)} {row : Option Nat} (h : All B w vs d) (hg : w.grownBy w' row) (hr : ∀ u ∈ vs, ∀ k, row = some k → u.ownBlock ≠ some k) : All B w' vs d := by
  refine ⟨h.1, fun j r hj => ?_⟩
  obtain ⟨u, h1, h0, ho⟩ := h.2 j r hj
  refine ⟨u, h1, h0, ho.kept hg ?_⟩
  cases hk : u.ownBlock with
  | none => exact .inl rfl
  | some g => exact .inr (fun e => hr u (List.mem_of_getElem? h1) g e.symm hk)
def NmRel (w : World) (b : Nat) (s : List UInt8) (ANS : Option (List (List Av))) (v : Value) (wr : World) : Prop :=
  ∃ (k f : Nat) (o : List (List Av)) (vs : List Value), o ≠ [] ∧ o.length ≤ k ∧ k ≤ s.length ∧ RAt wr b s k ∧ Kept b w wr ∧ wr.ownsRow w.heap.size 66 1 v o.length vs ∧ All w.heap.size wr vs o ∧ Off vs v ∧ Sep vs ∧ (s.drop k).length ≤ f ∧ rNameK f (s.drop k) o = ANS
theorem own_new1 (w1 : World) (base : Nat) (hb : base ≤ w1.heap.size) (u : Value) :
    (w1.alloc (.cells #[u] 66)).ownsRow base 66 1 (.slice (some ⟨w1.heap.size, 0, none⟩) 1 1) 1 [u] :=
  ⟨rfl, .inr ⟨w1.heap.size, 1, _, rfl, hb, alloc_at _ _ _ rfl, Nat.le_refl _, by decide, rfl, rfl⟩⟩
/-- A name that the call made: its row, its parts' rows, all in blocks of their own. -/
def OwnD (B : Nat) (w : World) (v : Value) (d : List (List Av)) : Prop :=
  ∃ vs, w.ownsRow B 66 1 v d.length vs ∧ (∀ (j : Nat) (r : List Av), d[j]? = some r → ∃ u, vs[j]? = some u ∧ w.ownsRow B 146 2 u r.length (aV r)) ∧ Sep vs
theorem own_avs {B : Nat} {w : World} {v : Value} {r : List Av} (h : w.ownsRow B 146 2 v r.length (aV r)) : AvsAt w v r := by
  by_cases h0 : r = []
  · subst h0
    rcases h.2 with ⟨rfl, _⟩ | ⟨g, cap, cur, rfl, _⟩
    · exact ⟨none, 0, rfl, Nat.le_refl _, fun h => absurd rfl h⟩
    · exact ⟨_, cap, rfl, Nat.zero_le _, fun h => absurd rfl h⟩
  · exact Avs.at ⟨h0, h⟩
theorem OwnD.at {B : Nat} {w : World} {v : Value} {d : List (List Av)} (h : OwnD B w v d) : DnAt w v d := by
  obtain ⟨vs, ho, ha, _⟩ := h
  rcases id ho.2 with ⟨rfl, hz⟩ | ⟨g, cap, cur, hv, hbg, hg, hc, r'⟩
  · exact ⟨none, 0, by rw [hz], by omega, fun h0 => absurd (List.eq_nil_of_length_eq_zero hz) h0⟩
  · subst hv
    refine ⟨_, cap, rfl, hc, fun _ => ⟨g, 0, rfl, fun j r hj => ?_⟩⟩
    obtain ⟨u, h1, h2⟩ := ha j r hj
    have c1 := ho.cells (g := g) rfl _ _ h1
    rw [Addr.add_lit] at c1
    exact ⟨u, c1, own_avs h2⟩
theorem OwnD.kg {G : Nat → Prop} {B : Nat} {w w' : World} {v : Value} {d : List (List Av)} (h : OwnD B w v d) (hk : KG G w w') (hn : ∀ k, B ≤ k → k < w.heap.size → ¬ G k) : OwnD B w' v d := by
  obtain ⟨vs, ho, ha, hs⟩ := h
  refine ⟨vs, hk.own ho (fun k hk => hn k (ho.lt k hk).1 (ho.lt k hk).2), fun j r hj => ?_, hs⟩
  obtain ⟨u, h1, h2⟩ := ha j r hj
  exact ⟨u, h1, hk.own h2 (fun k hk => hn k (h2.lt k hk).1 (h2.lt k hk).2)⟩
theorem OwnD.below {B : Nat} {w w' : World} {v : Value} {d : List (List Av)} (h : OwnD B w v d) (hb : Below w.heap.size w w') : OwnD B w' v d := h.kg (KG.of_below (G := fun _ => False) hb) (fun _ _ _ h => h)
theorem OwnD.kept {b B : Nat} {w w' : World} {v : Value} {d : List (List Av)} (h : OwnD B w v d) (hk : Kept b w w') (hb : b < B) : OwnD B w' v d := by
  have hk2 : KG (fun k => k = b) w w' := ⟨hk.1, hk.2.1, hk.2.2.1, hk.2.2.2.1, hk.2.2.2.2⟩
  exact h.kg hk2 (fun k h1 _ e => by omega)
theorem OwnD.mono {B B' : Nat} {w : World} {v : Value} {d : List (List Av)} (h : OwnD B w v d) (hB : B' ≤ B) : OwnD B' w v d := by
  obtain ⟨vs, ho, ha, hs⟩ := h
  exact ⟨vs, ownMono ho hB, fun j r hj => by obtain ⟨u, h1, h2⟩ := ha j r hj; exact ⟨u, h1, ownMono h2 hB⟩, hs⟩
theorem OwnD.nil (B : Nat) (w : World) : OwnD B w (.slice none 0 0) [] := ⟨[], World.ownsRow_nil _ _ _ _, fun j r hj => by simp at hj, Sep.nil⟩
theorem dn_own {B : Nat} {w : World} {v : Value} {d : List (List Av)} {vs : List Value} (h : w.ownsRow B 66 1 v d.length vs) (ha : All B w vs d) (hs : Sep vs) : OwnD B w v d :=
  ⟨vs, h, fun j r hj => by obtain ⟨u, h1, h2⟩ := ha.2 j r hj; exact ⟨u, h1, h2.2⟩, hs⟩
set_option maxRecDepth 100000 in
set_option maxHeartbeats 4000000 in
theorem name_any (b : Nat) (s : List UInt8) (w : World) (h : RAt w b s 0) (hs : s.length ≤ 1099511627776) (hE : EnvK b w) :
    Calls Tryz.prog 116 #[.pointer (some ⟨b, 0, none⟩)] w fun e w' => (match nameB s with | some d => (∃ v, e = .returned v ∧ OwnD w.heap.size w' v d) | none => e = .panicked [{ v := perr, recovered := false }]) ∧ Kept b w w' := by
  have hlb : b < w.heap.size := h.lt
  obtain ⟨q0, q1, q2⟩ := h.cells
  obtain ⟨i0, hi0, hz0, hz1, hz2⟩ := info_parts Tryz.infoRdn
  by_cases h0 : s = []
  · subst h0
    show Calls _ _ _ _ fun e w' => (∃ v, e = .returned v ∧ OwnD w.heap.size w' v []) ∧ Kept b w w'
    clear hi0 hz0 hz1 hz2
    go_enter Tryz.func116, Tryz.ntmps116
    go_wp2_with fail
    go_ret
    exact ⟨⟨_, rfl, OwnD.nil _ _⟩, Kept.refl _ _⟩
  · have hne : s.isEmpty = false := by cases s <;> simp_all
    obtain ⟨ANS, hA⟩ : ∃ ANS, nameB s = ANS := ⟨_, rfl⟩
    rw [hA]
    unfold nameB at hA
    rw [if_neg h0, rName_step] at hA
    obtain ⟨PR, hPR⟩ : ∃ PR : Ending → World → Prop, PR = fun e w' => (match ANS with | some d => (∃ v, e = .returned v ∧ OwnD w.heap.size w' v d) | none => e = .panicked [{ v := perr, recovered := false }]) ∧ Kept b w w' := ⟨_, rfl⟩
    rw [← hPR]
    have HP := Lib.hid hPR
    clear hPR
    have kp := part_any b s s w ⟨0, Nat.zero_le _, rfl, h⟩ hs hE
    cases hp : rPart (s.length + 1) s [] with
    | none =>
      rw [hp] at kp hA
      go_enter Tryz.func116, Tryz.ntmps116
      go_wp2_with (go_at_call 198; refine Calls.mono (show Calls _ _ _ _ _ from kp) ?_; rintro e w1 ⟨rfl, hk1⟩)
      refine ⟨rfl, ?_⟩
      rw [HP.out, ← hA]
      exact ⟨rfl, hk1⟩
    | some q =>
      obtain ⟨p, u⟩ := q
      have hul := rPart_len _ _ _ _ _ hp
      rw [hp] at kp hA
      simp only [List.nil_append] at hA
      have HA := Lib.hid hA
      clear hA
      go_enter Tryz.func116, Tryz.ntmps116
      go_wp2_with (go_at_call 198; refine Calls.mono (show Calls _ _ _ _ _ from kp) ?_; rintro e w1 ⟨⟨⟨v1, rfl, hv1⟩, hr1⟩, hk1⟩; obtain ⟨g1, cap1, hv1e, hgB, hgl, hcl, hcell1⟩ := hv1.form; subst hv1e)
      have hbA := (Below.refl w1.heap.size w1).alloc (Nat.le_refl _) (.cells #[.slice (some ⟨g1, 0, none⟩) p.length cap1] 66)
      have hrA := hr1.below hbA
      have hkA := hk1.alloc (.cells #[.slice (some ⟨g1, 0, none⟩) p.length cap1] 66)
      have hoA := own_new1 w1 w.heap.size hk1.2.2.2.1 (.slice (some ⟨g1, 0, none⟩) p.length cap1)
      have hvA := hv1.kept (b := b) (Kept.of_below hbA) hlb
      have haA : All w.heap.size (w1.alloc (.cells #[.slice (some ⟨g1, 0, none⟩) p.length cap1] 66)) [.slice (some ⟨g1, 0, none⟩) p.length cap1] [p] := ⟨rfl, fun j r hj => by
        match j, hj with
        | 0, hj => simp at hj; subst hj; exact ⟨_, rfl, hvA⟩
        | j + 1, hj => simp at hj⟩
      have hoffA : Off [.slice (some ⟨g1, 0, none⟩) p.length cap1] (.slice (some ⟨w1.heap.size, 0, none⟩) 1 1) := by
        intro u hu k hk e
        simp at hu
        subst hu
        have h1 : w1.heap.size = k := Option.some.inj hk
        have h2 : g1 = k := Option.some.inj e
        omega
      clear hv1 hvA hcell1 hbA
      generalize w1.alloc (.cells #[.slice (some ⟨g1, 0, none⟩) p.length cap1] 66) = wA at hrA hkA hoA haA ⊢
      go_loopw [3] (fun v wr => NmRel w b s ANS v wr) (fun _ wr => s.length - posOf wr b)
      case atStart =>
        obtain ⟨k, hk, hdr, hR⟩ := hrA
        exact ⟨k, s.length, [p], [_], by simp, by have := congrArg List.length hdr; simp at this ⊢; omega, hk, hR, hkA, hoA, haA, hoffA, Sep.snoc Sep.nil (fun u hu => by cases hu), by rw [hdr]; omega, by rw [hdr]; exact HA.out⟩
      case round =>
        clear hrA hkA hoA haA hoffA hr1 hk1 HA kp hul hp q0 q1 q2
        obtain ⟨k, f, o, vs, ho0, hok, hk, hR, hkp, hown, hall, hoff, hsep, hf, hans⟩ := hrel
        have hpos := hR.pos
        obtain ⟨z, hz⟩ : ∃ z, s.drop k = z := ⟨_, rfl⟩
        rw [hz] at hans hf
        have ki := is_any b k s z 44 wr hR hk hz
        cases h44 : headIs z 44 with
        | false =>
          rw [h44] at ki
          have hA2 : ANS = if z = [] then some o else none := by
            rw [← hans]
            unfold rNameK
            split
            · simp [headIs] at h44
            · rfl
            · rename_i hz1 hz2
              rw [if_neg]
              intro e
              exact hz2 e
          go_upto_region 7 with (go_at_call 199; refine Calls.mono (show Calls _ _ _ _ _ from ki) ?_; rintro e w2 ⟨rfl, m, hw2⟩; have hR2 : RAt w2 b s k := (by rw [hw2]; exact hR.drewN m); have hkp2 : Kept b w w2 := (by rw [hw2]; exact hkp.trans (Kept.of_below (Below.drewN (Below.refl _ _) m))); have hown2 : w2.ownsRow w.heap.size 66 1 u3 o.length vs := (by rw [hw2]; exact hown); have hall2 : All w.heap.size w2 vs o := (by rw [hw2]; exact hall); clear hw2)
          have ke := ended_any b k s w2 hR2
          by_cases hze : z = []
          · rw [if_pos hze] at hA2
            have hkl : k = s.length := by rw [hze] at hz; have := congrArg List.length hz; simp at this; omega
            rw [decide_eq_true hkl] at ke
            clear hkl
            go_wp2_with (go_at_call 200; refine Calls.mono (show Calls _ _ _ _ _ from ke) ?_; rintro e w3 ⟨rfl, m, hw3⟩; have hkp3 : Kept b w w3 := (by rw [hw3]; exact hkp2.trans (Kept.of_below (Below.drewN (Below.refl _ _) m))); have hown3 : w3.ownsRow w.heap.size 66 1 u3 o.length vs := (by rw [hw3]; exact hown2); have hall3 : All w.heap.size w3 vs o := (by rw [hw3]; exact hall2); clear hw3)
            rw [HP.out, hA2]
            exact ⟨⟨_, rfl, dn_own hown3 hall3 hsep⟩, hkp3⟩
          · rw [if_neg hze] at hA2
            have hkl : ¬ k = s.length := by intro e; apply hze; rw [← hz, e]; simp
            rw [decide_eq_false hkl] at ke
            clear hkl
            go_wp2_with (go_at_call 200; refine Calls.mono (show Calls _ _ _ _ _ from ke) ?_; rintro e w3 ⟨rfl, m, hw3⟩; have hkp3 : Kept b w w3 := (by rw [hw3]; exact hkp2.trans (Kept.of_below (Below.drewN (Below.refl _ _) m))); clear hw3)
            refine ⟨rfl, ?_⟩
            rw [HP.out, hA2]
            exact ⟨rfl, hkp3⟩
        | true =>
          rw [h44] at ki
          obtain ⟨z', rfl⟩ : ∃ t, z = 44 :: t := by
            cases z with
            | nil => simp [headIs] at h44
            | cons x t => simp [headIs] at h44; subst h44; exact ⟨t, rfl⟩
          obtain ⟨hlt, hdr⟩ := drop_lt hz
          rw [show rNameK f (44 :: z') o = rName f z' o from rfl] at hans
          obtain ⟨f', rfl⟩ : ∃ f', f = f' + 1 := ⟨f - 1, by simp at hf; omega⟩
          rw [rName_step] at hans
          go_upto_region 6 with (go_at_call 199; refine Calls.mono (show Calls _ _ _ _ _ from ki) ?_; rintro e w2 ⟨rfl, m, hw2⟩; have hR2 : RAt w2 b s k := (by rw [hw2]; exact hR.drewN m); have hkp2 : Kept b w w2 := (by rw [hw2]; exact hkp.trans (Kept.of_below (Below.drewN (Below.refl _ _) m))); have hown2 : w2.ownsRow w.heap.size 66 1 u3 o.length vs := (by rw [hw2]; exact hown); have hall2 : All w.heap.size w2 vs o := (by rw [hw2]; exact hall); clear hw2; obtain ⟨q0, q1, q2⟩ := hR2.cells)
          have hks := Kept.set b w2 1 (.int .i64 ((k : Int) + 1))
          have hR3 := hR2.set1
          have hkp3 := hkp2.trans hks
          have hown3 := own_kept hown2 hks hlb
          have hall3 := hall2.kept hks hlb
          generalize w2.setCell ⟨b, 1, none⟩ (.int .i64 ((k : Int) + 1)) = w3 at hR3 hkp3 hown3 hall3 ⊢
          clear q0 q1 q2 hR2 hkp2 hown2 hown hkp hR hks hall2 hall
          have kp := part_any b s z' w3 ⟨k + 1, hlt, hdr, hR3⟩ hs (hE.kept hkp3)
          cases hp : rPart (z'.length + 1) z' [] with
          | none =>
            rw [hp] at kp hans
            go_wp2_with (go_at_call 198; refine Calls.mono (show Calls _ _ _ _ _ from kp) ?_; rintro e w4 ⟨rfl, hk4⟩)
            refine ⟨rfl, ?_⟩
            rw [HP.out, ← hans]
            exact ⟨rfl, hkp3.trans hk4⟩
          | some q =>
            obtain ⟨p, u⟩ := q
            have hul := rPart_len _ _ _ _ _ hp
            rw [hp] at kp hans
            have HS := Lib.hid hans
            clear hans hp
            go_wp2_with (first | (go_at_call 198; refine Calls.mono (show Calls _ _ _ _ _ from kp) ?_; rintro e w4 ⟨⟨⟨v4, rfl, hv4⟩, hr4⟩, hk4⟩; have hown4 := own_kept hown3 hk4 hlb; have hall4 := hall3.kept hk4 hlb; have hkp4 := hkp3.trans hk4; have hsz4 := hkp4.2.2.2.1; have hsz3 := hkp3.2.2.2.1; obtain ⟨g4, cap4, hv4e, hgB4, hgl4, hcl4, hcell4⟩ := hv4.form; subst hv4e; have hsep4 : Sep (vs ++ [.slice (some ⟨g4, 0, none⟩) p.length cap4]) := hsep.snoc (fun u hu k hk e => by obtain ⟨g, hg1, hg2⟩ := hall3.lt hu; rw [hg1] at hk; have e1 := Option.some.inj hk; have e2 : g4 = k := Option.some.inj e; omega)) | (at_builtin; refine wpList_append_own_at _ rfl (.tmp 21) (.tmp 24) 60 rfl w.heap.size 66 i0 (.slice none 0 0) 1 24 Tryz.underlying60 hi0 hz0 hz1 hz2 rfl (by decide) u3 o.length vs rfl (hown4.alloc _) ⟨w4.heap.size, 0, none⟩ 1 1 [.slice (some ⟨g4, 0, none⟩) p.length cap4] rfl rfl (cell_one_new _ _ _) ?d2 ?d3 ?d4 ?d5 ?_))
            case d2 => intro u hu; simp at hu; subst hu; rfl
            case d3 => unfold maxLen; omega
            case d4 => omega
            case d5 => simp; omega
            intro v' w7 ho7 hg7 _ hat7
            obtain ⟨k', hk', hdr', h6⟩ := hr4
            have hkk : k + 1 ≤ k' := by
              have e1 := congrArg List.length hdr'
              have e2 := congrArg List.length hdr
              simp at e1 e2
              omega
            have hb5 := (Below.refl w4.heap.size w4).alloc (Nat.le_refl _) (.cells #[.slice (some ⟨g4, 0, none⟩) p.length cap4] 66)
            have h7 : RAt w7 b s k' := RAt.grown (RAt.below h6 hb5) hg7 (fun e => by have := (hown4.lt b e).1; omega)
            have hkp7 : Kept b w w7 := (hkp4.alloc _).grown hg7 (fun j hj => (hown4.lt j hj).1)
            have hv5 : Avs w.heap.size (w4.alloc (.cells #[.slice (some ⟨g4, 0, none⟩) p.length cap4] 66)) (.slice (some ⟨g4, 0, none⟩) p.length cap4) p :=
              Avs.kept (b := b) (Avs.mono hv4 hsz3) (Kept.of_below hb5) hlb
            have hall6 := (hall4.kept (b := b) (Kept.of_below hb5) hlb).snoc hv5
            have hoff6 : Off (vs ++ [.slice (some ⟨g4, 0, none⟩) p.length cap4]) u3 := by
              intro u hu j hj e
              rcases List.mem_append.1 hu with hu | hu
              · exact hoff u hu j hj e
              · simp at hu
                subst hu
                have h2 : g4 = j := Option.some.inj e
                have := (hown3.lt j hj).2
                omega
            have hall7 := hall6.grown hg7 (fun u hu j hj e => hoff6 u hu j hj e)
            have hoff7 : Off (vs ++ [.slice (some ⟨g4, 0, none⟩) p.length cap4]) v' := by
              intro u hu j hj e
              rcases hat7 with h' | h'
              · exact hoff6 u hu j (h' ▸ hj) e
              · obtain ⟨g, hg1, hg2⟩ := hall6.lt hu
                rw [h'] at hj
                rw [hg1] at e
                have e1 := Option.some.inj hj
                have e2 := Option.some.inj e
                simp at hg2 e1
                omega
            go_wp2_with fail
            go_roundw
            case rel =>
              refine ⟨k', f', o ++ [p], _, by simp, by simp; omega, hk', h7, hkp7, ?_, hall7, hoff7, hsep4, ?_, ?_⟩
              · rw [List.length_append]
                exact ho7
              · rw [hdr']; simp at hf; omega
              · rw [hdr']; exact HS.out
            case measure => rw [hpos, h7.pos]; omega
end Go.Proofs.YtegigcneimjimaaGreatDoor
