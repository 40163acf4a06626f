/- dn's reader: a name. -/
import Derived.Test.YtldcfilhgdjaeaaDoorDnQ
import Derived.Maps.AppendAt
namespace Go.Proofs.YtldcfilhgdjaeaaDoor
open Go.RowKit Go.Lib

theorem Tryd.infoRdn : (Tryd.prog.info? 35).map (fun i => (i.zero, i.size, i.bytes)) = some (some (.slice none 0 0), 1, 24) := by kernel_rfl
/-- A part, a name as they lie. -/
def AvsAt (w : World) (v : Value) (r : List Av) : Prop :=
  ∃ a cap, v = .slice a r.length cap ∧ r.length ≤ cap ∧ (r ≠ [] → ∃ g o, a = some ⟨g, o, none⟩ ∧ ∀ j x, r[j]? = some x → w.cell? ⟨g, o + 2 * j, none⟩ = some (.string ⟨x.1.toArray⟩) ∧ w.cell? ⟨g, o + 2 * j + 1, none⟩ = some (.string ⟨x.2.toArray⟩))
def DnAt (w : World) (v : Value) (d : List (List Av)) : Prop :=
  ∃ a cap, v = .slice a d.length cap ∧ d.length ≤ cap ∧ (d ≠ [] → ∃ g o, a = some ⟨g, o, none⟩ ∧ ∀ j r, d[j]? = some r → ∃ u, w.cell? ⟨g, o + j, none⟩ = some u ∧ AvsAt w u r)
theorem AvsAt.below {w w' : World} {v : Value} {r : List Av} (h : AvsAt w v r) (hb : Below w.heap.size w w') : AvsAt w' v r := by
  obtain ⟨a, cap, hv, hc, hr⟩ := h
  refine ⟨a, cap, hv, hc, fun h0 => ?_⟩
  obtain ⟨g, o, ha, hcell⟩ := hr h0
  refine ⟨g, o, ha, fun j x hj => ?_⟩
  obtain ⟨c1, c2⟩ := hcell j x hj
  exact ⟨(hb.cell (lt_of_cell c1)).trans c1, (hb.cell (lt_of_cell c2)).trans c2⟩
theorem DnAt.below {w w' : World} {v : Value} {d : List (List Av)} (h : DnAt w v d) (hb : Below w.heap.size w w') : DnAt w' v d := by
  obtain ⟨a, cap, hv, hc, hr⟩ := h
  refine ⟨a, cap, hv, hc, fun h0 => ?_⟩
  obtain ⟨g, o, ha, hcell⟩ := hr h0
  refine ⟨g, o, ha, fun j x hj => ?_⟩
  obtain ⟨u, c1, c2⟩ := hcell j x hj
  exact ⟨u, (hb.cell (lt_of_cell c1)).trans c1, c2.below hb⟩
theorem Avs.at {B : Nat} {w : World} {v : Value} {r : List Av} (h : Avs B w v r) : AvsAt w v r := by
  obtain ⟨g, cap, hv, _, _, hc, hcell⟩ := h
  exact ⟨_, cap, hv, hc, fun _ => ⟨g, 0, rfl, fun j x hj => by rw [Nat.zero_add]; exact hcell j x hj⟩⟩
/-- Values that stand for parts. -/
def All (B : Nat) (w : World) (vs : List Value) (d : List (List Av)) : Prop := vs.length = d.length ∧ ∀ (j : Nat) (r : List Av), d[j]? = some r → ∃ u, vs[j]? = some u ∧ Avs B w u r
theorem All.kept {b B : Nat} {w w' : World} {vs : List Value} {d : List (List Av)} (h : All B w vs d) (hk : Kept b w w') (hb : b < B) : All B w' vs d :=
  ⟨h.1, fun j r hj => by obtain ⟨u, h1, h2⟩ := h.2 j r hj; exact ⟨u, h1, h2.kept hk hb⟩⟩
theorem All.snoc {B : Nat} {w : World} {vs : List Value} {d : List (List Av)} {v : Value} {p : List Av} (h : All B w vs d) (hp : Avs B w v p) : All B w (vs ++ [v]) (d ++ [p]) := by
  refine ⟨by simp [h.1], fun j r hj => ?_⟩
  rcases Nat.lt_or_ge j d.length with hl | hl
  · rw [List.getElem?_append_left hl] at hj
    obtain ⟨u, h1, h2⟩ := h.2 j r hj
    exact ⟨u, by rw [List.getElem?_append_left (by rw [h.1]; exact hl)]; exact h1, h2⟩
  · rw [List.getElem?_append_right hl] at hj
    have hj0 : j - d.length = 0 := by
      rcases Nat.eq_zero_or_pos (j - d.length) with h' | h'
      · exact h'
      · rw [List.getElem?_eq_none (by simp; omega)] at hj; cases hj
    rw [hj0] at hj
    simp at hj
    subst hj
    exact ⟨v, by rw [List.getElem?_append_right (by rw [h.1]; exact hl), h.1, hj0]; rfl, hp⟩
/-- The blocks of the parts are others than the row's. -/
def Off (vs : List Value) (v : Value) : Prop := ∀ u ∈ vs, ∀ k, v.ownBlock = some k → u.ownBlock ≠ some k
theorem Avs.mono {B B' : Nat} {w : World} {v : Value} {r : List Av} (h : Avs B' w v r) (hB : B ≤ B') : Avs B w v r := by
  obtain ⟨g, cap, h1, h2, h3⟩ := h
  exact ⟨g, cap, h1, Nat.le_trans hB h2, h3⟩
theorem All.lt {B : Nat} {w : World} {vs : List Value} {d : List (List Av)} (h : All B w vs d) {u : Value} (hu : u ∈ vs) : ∃ g, u.ownBlock = some g ∧ g < w.heap.size := by
  obtain ⟨j, hj⟩ := List.getElem?_of_mem hu
  have hl : j < d.length := by rw [← h.1]; exact (List.getElem?_eq_some_iff.1 hj).1
  obtain ⟨u', h1, g, cap, hv, _, hg, _⟩ := h.2 j d[j] (List.getElem?_eq_getElem hl)
  rw [hj] at h1
  cases h1
  exact ⟨g, by rw [hv]; rfl, hg⟩
def rNameK (f : Nat) (u : List UInt8) (o : List (List Av)) : Option (List (List Av)) := match u with
  | 44 :: u' => rName f u' o
  | [] => some o
  | _ => none
theorem rName_step (f : Nat) (r : List UInt8) (o : List (List Av)) : rName (f + 1) r o = match rPart (r.length + 1) r [] with | none => none | some (p, u) => rNameK f u (o ++ [p]) := by
  rw [rName]
  cases rPart (r.length + 1) r [] with
  | none => rfl
  | some p => obtain ⟨a, u⟩ := p; rfl
theorem All.grown {B : Nat} {w w' : World} {vs : List Value} {d : List (List Av)} {row : Option Nat} (h : All B w vs d) (hg : w.grownBy w' row) (hr : ∀ u ∈ vs, ∀ k, row = some k → u.ownBlock ≠ some k) : All B w' vs d := by
  refine ⟨h.1, fun j r hj => ?_⟩
  obtain ⟨u, h1, g, cap, hv, hB, hgl, hc, hcell⟩ := h.2 j r hj
  refine ⟨u, h1, g, cap, hv, hB, Nat.lt_of_lt_of_le hgl hg.size, hc, fun i x hi => ?_⟩
  have hne : some g ≠ row := by
    intro e
    have := hr u (List.mem_of_getElem? h1) g e.symm
    rw [hv] at this
    exact this rfl
  have e : ∀ i, w'.cell? ⟨g, i, none⟩ = w.cell? ⟨g, i, none⟩ := fun i => World.cell?_of_block (w := w) (hg.block g hgl hne)
  rw [e, e]
  exact hcell i x hi
def NmRel (w : World) (b : Nat) (s : List UInt8) (ANS : Option (List (List Av))) (v : Value) (wr : World) : Prop :=
  ∃ (k f : Nat) (o : List (List Av)) (vs : List Value), o ≠ [] ∧ o.length ≤ k ∧ k ≤ s.length ∧ RAt wr b s k ∧ Kept b w wr ∧ wr.ownsRow w.heap.size 35 1 v o.length vs ∧ All w.heap.size wr vs o ∧ Off vs v ∧ (s.drop k).length ≤ f ∧ rNameK f (s.drop k) o = ANS
theorem own_new1 (w1 : World) (base : Nat) (hb : base ≤ w1.heap.size) (u : Value) :
    (w1.alloc (.cells #[u] 35)).ownsRow base 35 1 (.slice (some ⟨w1.heap.size, 0, none⟩) 1 1) 1 [u] :=
  ⟨rfl, .inr ⟨w1.heap.size, 1, _, rfl, hb, alloc_at _ _ _ rfl, Nat.le_refl _, by decide, rfl, rfl⟩⟩
/-- A name that the call made. -/
def DnB (B : Nat) (w : World) (v : Value) (d : List (List Av)) : Prop :=
  ∃ a cap, v = .slice a d.length cap ∧ d.length ≤ cap ∧ (d ≠ [] → ∃ g, a = some ⟨g, 0, none⟩ ∧ B ≤ g ∧ g < w.heap.size ∧ ∀ j r, d[j]? = some r → ∃ u, w.cell? ⟨g, j, none⟩ = some u ∧ Avs B w u r)
theorem DnB.at {B : Nat} {w : World} {v : Value} {d : List (List Av)} (h : DnB B w v d) : DnAt w v d := by
  obtain ⟨a, cap, hv, hc, hr⟩ := h
  refine ⟨a, cap, hv, hc, fun h0 => ?_⟩
  obtain ⟨g, ha, _, _, hcell⟩ := hr h0
  refine ⟨g, 0, ha, fun j r hj => ?_⟩
  obtain ⟨u, h1, h2⟩ := hcell j r hj
  exact ⟨u, by rw [Nat.zero_add]; exact h1, h2.at⟩
theorem DnB.kept {b B : Nat} {w w' : World} {v : Value} {d : List (List Av)} (h : DnB B w v d) (hk : Kept b w w') (hb : b < B) : DnB B w' v d := by
  obtain ⟨a, cap, hv, hc, hr⟩ := h
  refine ⟨a, cap, hv, hc, fun h0 => ?_⟩
  obtain ⟨g, ha, hg1, hg2, hcell⟩ := hr h0
  refine ⟨g, ha, hg1, Nat.lt_of_lt_of_le hg2 hk.2.2.2.1, fun j r hj => ?_⟩
  obtain ⟨u, h1, h2⟩ := hcell j r hj
  exact ⟨u, (World.cell?_of_block (w := w) (hk.2.2.2.2 g hg2 (by omega))).trans h1, h2.kept hk hb⟩
theorem dn_own {B : Nat} {w : World} {v : Value} {d : List (List Av)} {vs : List Value} (h : w.ownsRow B 35 1 v d.length vs) (ha : All B w vs d) (h0 : d ≠ []) : DnB B w v d := by
  rcases h.2 with ⟨_, hz⟩ | ⟨g, cap, cur, hv, hbg, hg, hc, r'⟩
  · exact absurd (List.eq_nil_of_length_eq_zero hz) h0
  · refine ⟨_, cap, hv, hc, fun _ => ⟨g, rfl, hbg, (Array.getElem?_eq_some_iff.1 hg).1, fun j r hj => ?_⟩⟩
    subst hv
    obtain ⟨u, h1, h2⟩ := ha.2 j r hj
    have c1 := h.cells (g := g) rfl _ _ h1
    rw [Addr.add_lit, Nat.zero_add] at c1
    exact ⟨u, c1, h2⟩
set_option maxRecDepth 100000 in
set_option maxHeartbeats 4000000 in
theorem name_any (b : Nat) (s : List UInt8) (w : World) (h : RAt w b s 0) (hs : s.length ≤ 1099511627776) (hE : EnvK b w) :
    Calls Tryd.prog 25 #[.pointer (some ⟨b, 0, none⟩)] w fun e w' => (match nameB s with | some d => (∃ v, e = .returned v ∧ DnB w.heap.size w' v d) | none => e = .panicked [{ v := perr, recovered := false }]) ∧ Kept b w w' := by
  have hlb : b < w.heap.size := h.lt
  obtain ⟨q0, q1, q2⟩ := h.cells
  obtain ⟨i0, hi0, hz0, hz1, hz2⟩ := info_parts Tryd.infoRdn
  by_cases h0 : s = []
  · subst h0
    show Calls _ _ _ _ fun e w' => (∃ v, e = .returned v ∧ DnB w.heap.size w' v []) ∧ Kept b w w'
    clear hi0 hz0 hz1 hz2
    go_enter Tryd.func25, Tryd.ntmps25
    go_wp2_with fail
    go_ret
    exact ⟨⟨_, rfl, none, 0, rfl, Nat.le_refl _, fun hh => absurd rfl hh⟩, Kept.refl _ _⟩
  · have hne : s.isEmpty = false := by cases s <;> simp_all
    obtain ⟨ANS, hA⟩ : ∃ ANS, nameB s = ANS := ⟨_, rfl⟩
    rw [hA]
    unfold nameB at hA
    rw [if_neg h0, rName_step] at hA
    obtain ⟨PR, hPR⟩ : ∃ PR : Ending → World → Prop, PR = fun e w' => (match ANS with | some d => (∃ v, e = .returned v ∧ DnB w.heap.size w' v d) | none => e = .panicked [{ v := perr, recovered := false }]) ∧ Kept b w w' := ⟨_, rfl⟩
    rw [← hPR]
    have HP := Lib.hid hPR
    clear hPR
    have kp := part_any b s s w ⟨0, Nat.zero_le _, rfl, h⟩ hs hE
    cases hp : rPart (s.length + 1) s [] with
    | none =>
      rw [hp] at kp hA
      go_enter Tryd.func25, Tryd.ntmps25
      go_wp2_with (go_at_call 46; refine Calls.mono (show Calls _ _ _ _ _ from kp) ?_; rintro e w1 ⟨rfl, hk1⟩)
      refine ⟨rfl, ?_⟩
      rw [HP.out, ← hA]
      exact ⟨rfl, hk1⟩
    | some q =>
      obtain ⟨p, u⟩ := q
      have hul := rPart_len _ _ _ _ _ hp
      rw [hp] at kp hA
      simp only [List.nil_append] at hA
      have HA := Lib.hid hA
      clear hA
      go_enter Tryd.func25, Tryd.ntmps25
      go_wp2_with (go_at_call 46; refine Calls.mono (show Calls _ _ _ _ _ from kp) ?_; rintro e w1 ⟨⟨⟨v1, rfl, hv1⟩, hr1⟩, hk1⟩; obtain ⟨g1, cap1, hv1e, hgB, hgl, hcl, hcell1⟩ := hv1; subst hv1e)
      have hv1 : Avs w.heap.size w1 (.slice (some ⟨g1, 0, none⟩) p.length cap1) p := ⟨g1, cap1, rfl, hgB, hgl, hcl, hcell1⟩
      have hbA := (Below.refl w1.heap.size w1).alloc (Nat.le_refl _) (.cells #[.slice (some ⟨g1, 0, none⟩) p.length cap1] 35)
      have hrA := hr1.below hbA
      have hkA := hk1.alloc (.cells #[.slice (some ⟨g1, 0, none⟩) p.length cap1] 35)
      have hoA := own_new1 w1 w.heap.size hk1.2.2.2.1 (.slice (some ⟨g1, 0, none⟩) p.length cap1)
      have hvA := hv1.kept (b := b) (Kept.of_below hbA) hlb
      have haA : All w.heap.size (w1.alloc (.cells #[.slice (some ⟨g1, 0, none⟩) p.length cap1] 35)) [.slice (some ⟨g1, 0, none⟩) p.length cap1] [p] := ⟨rfl, fun j r hj => by
        match j, hj with
        | 0, hj => simp at hj; subst hj; exact ⟨_, rfl, hvA⟩
        | j + 1, hj => simp at hj⟩
      have hoffA : Off [.slice (some ⟨g1, 0, none⟩) p.length cap1] (.slice (some ⟨w1.heap.size, 0, none⟩) 1 1) := by
        intro u hu k hk e
        simp at hu
        subst hu
        have h1 : w1.heap.size = k := Option.some.inj hk
        have h2 : g1 = k := Option.some.inj e
        omega
      clear hv1 hvA hcell1 hbA
      generalize w1.alloc (.cells #[.slice (some ⟨g1, 0, none⟩) p.length cap1] 35) = wA at hrA hkA hoA haA ⊢
      go_loopw [3] (fun v wr => NmRel w b s ANS v wr) (fun _ wr => s.length - posOf wr b)
      case atStart =>
        obtain ⟨k, hk, hdr, hR⟩ := hrA
        exact ⟨k, s.length, [p], [_], by simp, by have := congrArg List.length hdr; simp at this ⊢; omega, hk, hR, hkA, hoA, haA, hoffA, by rw [hdr]; omega, by rw [hdr]; exact HA.out⟩
      case round =>
        clear hrA hkA hoA haA hoffA hr1 hk1 HA kp hul hp q0 q1 q2
        obtain ⟨k, f, o, vs, ho0, hok, hk, hR, hkp, hown, hall, hoff, hf, hans⟩ := hrel
        have hpos := hR.pos
        obtain ⟨z, hz⟩ : ∃ z, s.drop k = z := ⟨_, rfl⟩
        rw [hz] at hans hf
        have ki := is_any b k s z 44 wr hR hk hz
        cases h44 : headIs z 44 with
        | false =>
          rw [h44] at ki
          have hA2 : ANS = if z = [] then some o else none := by
            rw [← hans]
            unfold rNameK
            split
            · simp [headIs] at h44
            · rfl
            · rename_i hz1 hz2
              rw [if_neg]
              intro e
              exact hz2 e
          go_upto_region 7 with (go_at_call 47; refine Calls.mono (show Calls _ _ _ _ _ from ki) ?_; rintro e w2 ⟨rfl, m, hw2⟩; have hR2 : RAt w2 b s k := (by rw [hw2]; exact hR.drewN m); have hkp2 : Kept b w w2 := (by rw [hw2]; exact hkp.trans (Kept.of_below (Below.drewN (Below.refl _ _) m))); have hown2 : w2.ownsRow w.heap.size 35 1 u3 o.length vs := (by rw [hw2]; exact hown); have hall2 : All w.heap.size w2 vs o := (by rw [hw2]; exact hall); clear hw2)
          have ke := ended_any b k s w2 hR2
          by_cases hze : z = []
          · rw [if_pos hze] at hA2
            have hkl : k = s.length := by rw [hze] at hz; have := congrArg List.length hz; simp at this; omega
            rw [decide_eq_true hkl] at ke
            clear hkl
            go_wp2_with (go_at_call 48; refine Calls.mono (show Calls _ _ _ _ _ from ke) ?_; rintro e w3 ⟨rfl, m, hw3⟩; have hkp3 : Kept b w w3 := (by rw [hw3]; exact hkp2.trans (Kept.of_below (Below.drewN (Below.refl _ _) m))); have hown3 : w3.ownsRow w.heap.size 35 1 u3 o.length vs := (by rw [hw3]; exact hown2); have hall3 : All w.heap.size w3 vs o := (by rw [hw3]; exact hall2); clear hw3)
            rw [HP.out, hA2]
            exact ⟨⟨_, rfl, dn_own hown3 hall3 ho0⟩, hkp3⟩
          · rw [if_neg hze] at hA2
            have hkl : ¬ k = s.length := by intro e; apply hze; rw [← hz, e]; simp
            rw [decide_eq_false hkl] at ke
            clear hkl
            go_wp2_with (go_at_call 48; refine Calls.mono (show Calls _ _ _ _ _ from ke) ?_; rintro e w3 ⟨rfl, m, hw3⟩; have hkp3 : Kept b w w3 := (by rw [hw3]; exact hkp2.trans (Kept.of_below (Below.drewN (Below.refl _ _) m))); clear hw3)
            refine ⟨rfl, ?_⟩
            rw [HP.out, hA2]
            exact ⟨rfl, hkp3⟩
        | true =>
          rw [h44] at ki
          obtain ⟨z', rfl⟩ : ∃ t, z = 44 :: t := by
            cases z with
            | nil => simp [headIs] at h44
            | cons x t => simp [headIs] at h44; subst h44; exact ⟨t, rfl⟩
          obtain ⟨hlt, hdr⟩ := drop_lt hz
          rw [show rNameK f (44 :: z') o = rName f z' o from rfl] at hans
          obtain ⟨f', rfl⟩ : ∃ f', f = f' + 1 := ⟨f - 1, by simp at hf; omega⟩
          rw [rName_step] at hans
          go_upto_region 6 with (go_at_call 47; refine Calls.mono (show Calls _ _ _ _ _ from ki) ?_; rintro e w2 ⟨rfl, m, hw2⟩; have hR2 : RAt w2 b s k := (by rw [hw2]; exact hR.drewN m); have hkp2 : Kept b w w2 := (by rw [hw2]; exact hkp.trans (Kept.of_below (Below.drewN (Below.refl _ _) m))); have hown2 : w2.ownsRow w.heap.size 35 1 u3 o.length vs := (by rw [hw2]; exact hown); have hall2 : All w.heap.size w2 vs o := (by rw [hw2]; exact hall); clear hw2; obtain ⟨q0, q1, q2⟩ := hR2.cells)
          have hks := Kept.set b w2 1 (.int .i64 ((k : Int) + 1))
          have hR3 := hR2.set1
          have hkp3 := hkp2.trans hks
          have hown3 := own_kept hown2 hks hlb
          have hall3 := hall2.kept hks hlb
          generalize w2.setCell ⟨b, 1, none⟩ (.int .i64 ((k : Int) + 1)) = w3 at hR3 hkp3 hown3 hall3 ⊢
          clear q0 q1 q2 hR2 hkp2 hown2 hown hkp hR hks hall2 hall
          have kp := part_any b s z' w3 ⟨k + 1, hlt, hdr, hR3⟩ hs (hE.kept hkp3)
          cases hp : rPart (z'.length + 1) z' [] with
          | none =>
            rw [hp] at kp hans
            go_wp2_with (go_at_call 46; refine Calls.mono (show Calls _ _ _ _ _ from kp) ?_; rintro e w4 ⟨rfl, hk4⟩)
            refine ⟨rfl, ?_⟩
            rw [HP.out, ← hans]
            exact ⟨rfl, hkp3.trans hk4⟩
          | some q =>
            obtain ⟨p, u⟩ := q
            have hul := rPart_len _ _ _ _ _ hp
            rw [hp] at kp hans
            have HS := Lib.hid hans
            clear hans hp
            go_wp2_with (first | (go_at_call 46; refine Calls.mono (show Calls _ _ _ _ _ from kp) ?_; rintro e w4 ⟨⟨⟨v4, rfl, hv4⟩, hr4⟩, hk4⟩; have hown4 := own_kept hown3 hk4 hlb; have hall4 := hall3.kept hk4 hlb; have hkp4 := hkp3.trans hk4; have hsz4 := hkp4.2.2.2.1; have hsz3 := hkp3.2.2.2.1; obtain ⟨g4, cap4, hv4e, hgB4, hgl4, hcl4, hcell4⟩ := hv4; subst hv4e) | (at_builtin; refine wpList_append_own_at _ rfl (.tmp 21) (.tmp 24) 23 rfl w.heap.size 35 i0 (.slice none 0 0) 1 24 Tryd.underlying23 hi0 hz0 hz1 hz2 rfl (by decide) u3 o.length vs rfl (hown4.alloc _) ⟨w4.heap.size, 0, none⟩ 1 1 [.slice (some ⟨g4, 0, none⟩) p.length cap4] rfl rfl (cell_one_new _ _ _) ?d2 ?d3 ?d4 ?d5 ?_))
            case d2 => intro u hu; simp at hu; subst hu; rfl
            case d3 => unfold maxLen; omega
            case d4 => omega
            case d5 => simp; omega
            intro v' w7 ho7 hg7 _ hat7
            obtain ⟨k', hk', hdr', h6⟩ := hr4
            have hkk : k + 1 ≤ k' := by
              have e1 := congrArg List.length hdr'
              have e2 := congrArg List.length hdr
              simp at e1 e2
              omega
            have hb5 := (Below.refl w4.heap.size w4).alloc (Nat.le_refl _) (.cells #[.slice (some ⟨g4, 0, none⟩) p.length cap4] 35)
            have h7 : RAt w7 b s k' := RAt.grown (RAt.below h6 hb5) hg7 (fun e => by have := (hown4.lt b e).1; omega)
            have hkp7 : Kept b w w7 := (hkp4.alloc _).grown hg7 (fun j hj => (hown4.lt j hj).1)
            have hv5 : Avs w.heap.size (w4.alloc (.cells #[.slice (some ⟨g4, 0, none⟩) p.length cap4] 35)) (.slice (some ⟨g4, 0, none⟩) p.length cap4) p :=
              Avs.kept (b := b) (Avs.mono ⟨g4, cap4, rfl, hgB4, hgl4, hcl4, hcell4⟩ hsz3) (Kept.of_below hb5) hlb
            have hall6 := (hall4.kept (b := b) (Kept.of_below hb5) hlb).snoc hv5
            have hoff6 : Off (vs ++ [.slice (some ⟨g4, 0, none⟩) p.length cap4]) u3 := by
              intro u hu j hj e
              rcases List.mem_append.1 hu with hu | hu
              · exact hoff u hu j hj e
              · simp at hu
                subst hu
                have h2 : g4 = j := Option.some.inj e
                have := (hown3.lt j hj).2
                omega
            have hall7 := hall6.grown hg7 (fun u hu j hj e => hoff6 u hu j hj e)
            have hoff7 : Off (vs ++ [.slice (some ⟨g4, 0, none⟩) p.length cap4]) v' := by
              intro u hu j hj e
              rcases hat7 with h' | h'
              · exact hoff6 u hu j (h' ▸ hj) e
              · obtain ⟨g, hg1, hg2⟩ := hall6.lt hu
                rw [h'] at hj
                rw [hg1] at e
                have e1 := Option.some.inj hj
                have e2 := Option.some.inj e
                simp at hg2 e1
                omega
            go_wp2_with fail
            go_roundw
            case rel =>
              refine ⟨k', f', o ++ [p], _, by simp, by simp; omega, hk', h7, hkp7, ?_, hall7, hoff7, ?_, ?_⟩
              · rw [List.length_append]
                exact ho7
              · rw [hdr']; simp at hf; omega
              · rw [hdr']; exact HS.out
            case measure => rw [hpos, h7.pos]; omega
end Go.Proofs.YtldcfilhgdjaeaaDoor
