/- dn.ParseRdn, what it returns in rows of its own; chanceryref4.Parse. (Out of LawParses.) -/
import Derived.Test.YtegigcneimjimaaGreatDoorRf4N
import Derived.Test.YtegigcneimjimaaGreatDoorRf4F
import Derived.Test.YtegigcneimjimaaGreatDoorDnK
import Derived.Test.YtegigcneimjimaaGreatDoorDnS
namespace Go.Proofs.YtegigcneimjimaaGreatDoor
open Go.RowKit Go.Lib

theorem rName_count : ∀ (f : Nat) (r : List UInt8) (o d : List (List Av)), rName f r o = some d → d.length ≤ o.length + f
  | 0, _, _, _, h => by cases h
  | f + 1, r, o, d, h => by
    rw [rName_step] at h
    cases hp : rPart (r.length + 1) r [] with
    | none => rw [hp] at h; cases h
    | some q =>
      obtain ⟨p, u⟩ := q
      rw [hp] at h
      simp only at h
      unfold rNameK at h
      split at h
      · have := rName_count f _ _ _ h; simp at this; omega
      · cases h; simp
      · cases h
theorem rName_more : ∀ (f : Nat) (r : List UInt8) (o d : List (List Av)), rName f r o = some d → o.length < d.length
  | 0, _, _, _, h => by cases h
  | f + 1, r, o, d, h => by
    rw [rName_step] at h
    cases hp : rPart (r.length + 1) r [] with
    | none => rw [hp] at h; cases h
    | some q =>
      obtain ⟨p, u⟩ := q
      rw [hp] at h
      simp only at h
      unfold rNameK at h
      split at h
      · have := rName_more f _ _ _ h; simp at this; omega
      · cases h; simp
      · cases h
theorem nameB_count {s : List UInt8} {d : List (List Av)} (h : nameB s = some d) : d.length ≤ s.length + 1 := by
  unfold nameB at h
  split at h
  · cases h; simp
  · have := rName_count _ _ _ _ h; simpa using this
theorem nameB_one {s : List UInt8} {d : List (List Av)} (h : nameB s = some d) (h0 : d ≠ []) : ∃ p u, rPart (s.length + 1) s [] = some (p, u) ∧ (u = [] ↔ d.length = 1) := by
  unfold nameB at h
  split at h
  · cases h; exact absurd rfl h0
  · rw [rName_step] at h
    cases hp : rPart (s.length + 1) s [] with
    | none => rw [hp] at h; cases h
    | some q =>
      obtain ⟨p, u⟩ := q
      rw [hp] at h
      simp only at h
      refine ⟨p, u, rfl, ?_⟩
      unfold rNameK at h
      split at h
      · have := rName_more _ _ _ _ h
        simp at this
        exact ⟨fun e => (by cases e), fun e => (by omega)⟩
      · cases h; simp
      · cases h
def partRB (s : List UInt8) : List Av × Int :=
  if 65536 < s.length then ([], 2)
  else match nameB s with
    | none => ([], 30)
    | some d => if d.length = 1 then (if longB d then ([], 2) else (d.headD [], 0)) else ([], 30)
theorem none_avs (w : World) : AvsAt w (.slice none 0 0) [] := ⟨none, 0, rfl, Nat.le_refl _, fun h => absurd rfl h⟩
theorem dn_headO {B : Nat} {w : World} {v : Value} {d : List (List Av)} (h : OwnD B w v d) (h1 : d.length = 1) : ∃ g o cap u, v = .slice (some ⟨g, o, none⟩) 1 cap ∧ w.cell? ⟨g, o, none⟩ = some u ∧ w.ownsRow B 146 2 u (d.headD []).length (aV (d.headD [])) := by
  match d, h1 with
  | [x], _ =>
    obtain ⟨vs, ho, ha, _⟩ := h
    obtain ⟨u, h1, h2⟩ := ha 0 x rfl
    rcases id ho.2 with ⟨_, hz⟩ | ⟨g, cap, cur, rfl, _⟩
    · cases hz
    · have c := ho.cells (g := g) rfl 0 u h1
      exact ⟨g, 0, cap, u, rfl, c, h2⟩
set_option maxRecDepth 100000 in
set_option maxHeartbeats 2000000 in
theorem RParse_any (s : List UInt8) (w : World) (_hs : s.length ≤ 140737488351232) :
    Calls Tryz.prog 17 #[.string ⟨s.toArray⟩] w fun e w' => (∃ v, e = .returned (.tuple #[v, .int .i64 (parseB s).2]) ∧ DnAt w' v (parseB s).1) ∧ Below w.heap.size w w' := by
  obtain ⟨d, n, hdn⟩ : ∃ d n, parseB s = (d, n) := ⟨_, _, rfl⟩
  rw [hdn]
  simp only
  unfold parseB at hdn
  by_cases hbig : 65536 < s.length
  · rw [if_pos hbig] at hdn
    cases hdn
    have q1 : decide ((65536 : Int) < (s.length : Int)) = true := decide_eq_true (by omega)
    go_enter Tryz.func17, Tryz.ntmps17
    go_wp2_with fail
    go_ret2
    exact ⟨⟨_, rfl, none_at _⟩, Below.refl _ _⟩
  · rw [if_neg hbig] at hdn
    have q1 : decide ((65536 : Int) < (s.length : Int)) = false := decide_eq_false (by omega)
    have kn := rname_any s w (by omega)
    cases hn : nameB s with
    | none =>
      rw [hn] at kn hdn
      cases hdn
      go_enter Tryz.func17, Tryz.ntmps17
      go_wp2_with (go_at_call 118; refine Calls.mono (show Calls _ _ _ _ _ from kn) ?_; rintro e w1 ⟨⟨v1, rfl, hv1⟩, hb1⟩)
      go_ret2
      exact ⟨⟨_, rfl, none_at _⟩, hb1⟩
    | some d' =>
      have hcnt := nameB_count hn
      rw [hn] at kn hdn
      simp only at hdn
      have hd40 : d'.length ≤ 1099511627776 := by omega
      cases hl : longB d' with
      | true =>
        rw [hl, if_pos rfl] at hdn
        cases hdn
        go_enter Tryz.func17, Tryz.ntmps17
        go_wp2_with (first | (go_at_call 118; refine Calls.mono (show Calls _ _ _ _ _ from kn) ?_; rintro e w1 ⟨⟨v1, rfl, hv1⟩, hb1⟩; change DnAt w1 v1 d' at hv1; have kf := fits_any v1 d' w1 hv1 hd40; rw [hl] at kf) | (go_at_call 119; refine Calls.mono (show Calls _ _ _ _ _ from kf) ?_; rintro e w2 ⟨rfl, rfl⟩))
        go_ret2
        exact ⟨⟨_, rfl, none_at _⟩, hb1⟩
      | false =>
        rw [hl, if_neg (by decide)] at hdn
        cases hdn
        go_enter Tryz.func17, Tryz.ntmps17
        go_wp2_with (first | (go_at_call 118; refine Calls.mono (show Calls _ _ _ _ _ from kn) ?_; rintro e w1 ⟨⟨v1, rfl, hv1⟩, hb1⟩; change DnAt w1 v1 d at hv1; have kf := fits_any v1 d w1 hv1 hd40; rw [hl] at kf) | (go_at_call 119; refine Calls.mono (show Calls _ _ _ _ _ from kf) ?_; rintro e w2 ⟨rfl, rfl⟩))
        go_ret2
        exact ⟨⟨_, rfl, hv1⟩, hb1⟩
set_option maxRecDepth 100000 in
set_option maxHeartbeats 2000000 in
theorem ParseRdn_own (s : List UInt8) (w : World) (hs : s.length ≤ 140737488351232) (hE : Env w) :
    Calls Tryz.prog 20 #[.string ⟨s.toArray⟩] w fun e w' => (∃ v, e = .returned (.tuple #[v, .int .i64 (partRB s).2]) ∧ w'.ownsRow w.heap.size 146 2 v (partRB s).1.length (aV (partRB s).1)) ∧ Below w.heap.size w w' := by
  obtain ⟨d, n, hdn⟩ : ∃ d n, partRB s = (d, n) := ⟨_, _, rfl⟩
  rw [hdn]
  simp only
  unfold partRB at hdn
  have kp := Parse_own s w hs hE
  have hpb : parseB s = if 65536 < s.length then ([], (2 : Int)) else match nameB s with | none => ([], 30) | some d => if longB d then ([], 2) else (d, 0) := rfl
  rw [hpb] at kp
  clear hpb
  by_cases hbig : 65536 < s.length
  · rw [if_pos hbig] at hdn kp
    cases hdn
    simp only at kp
    have q1 : decide ((s.length : Int) ≤ 65536) = false := decide_eq_false (by omega)
    go_enter Tryz.func20, Tryz.ntmps20
    go_wp2_with (go_at_call 16; refine Calls.mono (show Calls _ _ _ _ _ from kp) ?_; rintro e w1 ⟨⟨v1, rfl, hv1⟩, hb1⟩)
    go_ret2
    exact ⟨⟨_, rfl, World.ownsRow_nil _ _ _ _⟩, hb1⟩
  · rw [if_neg hbig] at hdn kp
    have q1 : decide ((s.length : Int) ≤ 65536) = true := decide_eq_true (by omega)
    cases hn : nameB s with
    | none =>
      rw [hn] at hdn kp
      cases hdn
      simp only at kp
      go_enter Tryz.func20, Tryz.ntmps20
      go_wp2_with (go_at_call 16; refine Calls.mono (show Calls _ _ _ _ _ from kp) ?_; rintro e w1 ⟨⟨v1, rfl, hv1⟩, hb1⟩)
      go_ret2
      exact ⟨⟨_, rfl, World.ownsRow_nil _ _ _ _⟩, hb1⟩
    | some d' =>
      have h1 := fun h0 => nameB_one hn h0
      rw [hn] at hdn kp
      simp only at hdn kp
      cases hl : longB d' with
      | true =>
        rw [hl, if_pos rfl] at kp hdn
        simp only at kp
        obtain ⟨p, u, hpu, hiff⟩ := h1 (by rintro rfl; simp [longB] at hl)
        have ko := fun w1 hw1 => onePart_any s u p w1 (by omega) hw1 hpu
        clear h1 hpu
        by_cases hu : u = []
        · rw [if_pos (hiff.1 hu)] at hdn
          cases hdn
          rw [decide_eq_true hu] at ko
          clear hiff hu
          go_enter Tryz.func20, Tryz.ntmps20
          go_wp2_with (first | (go_at_call 16; refine Calls.mono (show Calls _ _ _ _ _ from kp) ?_; rintro e w1 ⟨⟨v1, rfl, hv1⟩, hb1⟩; have k2 := ko w1 (hE.below hb1)) | (go_at_call 122; refine Calls.mono (show Calls _ _ _ _ _ from k2) ?_; rintro e w2 ⟨rfl, hb2⟩))
          go_ret2
          exact ⟨⟨_, rfl, World.ownsRow_nil _ _ _ _⟩, below_ext hb1 hb2⟩
        · rw [if_neg (fun h => hu (hiff.2 h))] at hdn
          cases hdn
          rw [decide_eq_false hu] at ko
          clear hiff hu
          go_enter Tryz.func20, Tryz.ntmps20
          go_wp2_with (first | (go_at_call 16; refine Calls.mono (show Calls _ _ _ _ _ from kp) ?_; rintro e w1 ⟨⟨v1, rfl, hv1⟩, hb1⟩; have k2 := ko w1 (hE.below hb1)) | (go_at_call 122; refine Calls.mono (show Calls _ _ _ _ _ from k2) ?_; rintro e w2 ⟨rfl, hb2⟩))
          go_ret2
          exact ⟨⟨_, rfl, World.ownsRow_nil _ _ _ _⟩, below_ext hb1 hb2⟩
      | false =>
        rw [hl] at kp hdn
        simp only [Bool.false_eq_true, if_false] at kp hdn
        clear h1
        by_cases hd1 : d'.length = 1
        · rw [if_pos hd1] at hdn
          cases hdn
          have H1 := Lib.hid hd1
          clear hd1
          go_enter Tryz.func20, Tryz.ntmps20
          go_wp2_with (go_at_call 16; refine Calls.mono (show Calls _ _ _ _ _ from kp) ?_; rintro e w1 ⟨⟨v1, rfl, hv1⟩, hb1⟩; obtain ⟨g, o, cap, u, hv, hc, hu⟩ := dn_headO hv1 H1.out; subst hv)
          go_ret2
          exact ⟨⟨_, rfl, hu⟩, hb1⟩
        · rw [if_neg hd1] at hdn
          cases hdn
          have hne : ((d'.length : Int) == 1) = false := by rw [beq_eq_false_iff_ne]; omega
          have hne2 : ((d'.length : Int) != 1) = true := by rw [bne_iff_ne]; omega
          clear hd1
          go_enter Tryz.func20, Tryz.ntmps20
          go_wp2_with (go_at_call 16; refine Calls.mono (show Calls _ _ _ _ _ from kp) ?_; rintro e w1 ⟨⟨v1, rfl, hv1⟩, hb1⟩; obtain ⟨a1, c1, hve, _, _⟩ := hv1.at; subst hve)
          go_ret2
          exact ⟨⟨_, rfl, World.ownsRow_nil _ _ _ _⟩, hb1⟩
theorem partRB_len (s : List UInt8) : (partRB s).1.length ≤ 4 := by
  unfold partRB
  split
  · simp
  · split
    · simp
    · rename_i d _
      split
      · split
        · simp
        · rename_i hl
          match d with
          | [] => simp
          | x :: t =>
            have hl : longB (x :: t) = false := by simpa using hl
            unfold longB at hl
            simp only [Bool.or_eq_false_iff, List.any_cons, decide_eq_false_iff_not] at hl
            have := hl.2.1.1
            simp only [List.headD_cons]
            omega
      · simp
theorem parseB_len (s : List UInt8) : (parseB s).1.length ≤ 20 ∧ ∀ r ∈ (parseB s).1, r.length ≤ 4 := by
  have key : ∀ d, longB d = false → d.length ≤ 20 ∧ ∀ r ∈ d, r.length ≤ 4 := by
    intro d hl
    unfold longB at hl
    simp only [Bool.or_eq_false_iff, decide_eq_false_iff_not, List.any_eq_false, Bool.or_eq_true, decide_eq_true_eq, not_or] at hl
    exact ⟨by omega, fun x hx => by have := (hl.2 x hx).1; omega⟩
  unfold parseB
  split
  · exact ⟨by simp, fun r hr => by cases hr⟩
  · split
    · exact ⟨by simp, fun r hr => by cases hr⟩
    · split
      · exact ⟨by simp, fun r hr => by cases hr⟩
      · rename_i h
        exact key _ (by simpa using h)
end Go.Proofs.YtegigcneimjimaaGreatDoor
