/- dn's reader: a part of a name. -/
import Derived.Test.YtegigcneimjimaaGreatDoorDnP
import Derived.Test.YtegigcneimjimaaGreatDoorKg
namespace Go.Proofs.YtegigcneimjimaaGreatDoor
open Go.RowKit Go.Lib

theorem Tryz.infoAva : (Tryz.prog.info? 146).map (fun i => (i.zero, i.size, i.bytes)) = some (some (.agg #[.string ⟨#[]⟩, .string ⟨#[]⟩]), 2, 32) := by kernel_rfl
def aV (r : List Av) : List Value := r.flatMap fun a => [.string ⟨a.1.toArray⟩, .string ⟨a.2.toArray⟩]
theorem aV_length (r : List Av) : (aV r).length = r.length * 2 := by
  induction r with
  | nil => rfl
  | cons a r ih => simp [aV] at ih ⊢; omega
theorem aV_append (a b : List Av) : aV (a ++ b) = aV a ++ aV b := by simp [aV]
theorem aV_get : ∀ (r : List Av) (j : Nat) (a : Av), r[j]? = some a → (aV r)[2 * j]? = some (.string ⟨a.1.toArray⟩) ∧ (aV r)[2 * j + 1]? = some (.string ⟨a.2.toArray⟩)
  | [], j, a, h => by simp at h
  | x :: r, 0, a, h => by simp at h; subst h; simp [aV]
  | x :: r, j + 1, a, h => by
    have ih := aV_get r j a (by simpa using h)
    have e : aV (x :: r) = .string ⟨x.1.toArray⟩ :: .string ⟨x.2.toArray⟩ :: aV r := by simp [aV]
    rw [e, show 2 * (j + 1) = 2 * j + 1 + 1 by omega]
    simpa using ih
theorem tw_len (p : UInt8 → Bool) (l : List UInt8) : (l.takeWhile p).length + (l.dropWhile p).length = l.length := by
  have := congrArg List.length (List.takeWhile_append_dropWhile (p := p) (l := l))
  rwa [List.length_append] at this
theorem blanks_len (l : List UInt8) : (blanksB l).length ≤ l.length := by have := tw_len (· == 32) l; unfold blanksB; omega
theorem rVal_len : ∀ (f : Nat) (r b : List UInt8) (n : Nat) (v u : List UInt8), rVal f r b n = some (v, u) → u.length ≤ r.length
  | _, [], b, n, v, u, h => by
    rw [rVal] at h
    cases h
    simp
  | 0, c :: t, b, n, v, u, h => by cases h
  | f + 1, c :: t, b, n, v, u, h => by
    rw [rVal] at h
    split at h
    · cases h; simp
    · split at h
      · cases he : rEsc t with
        | none => rw [he] at h; cases h
        | some p =>
          obtain ⟨x, z⟩ := p
          rw [he] at h
          have h1 := rEsc_len he
          have h2 := rVal_len f z _ _ v u h
          simp
          omega
      · split at h
        · cases h
        · have h2 := rVal_len f t _ _ v u h
          simp
          omega
theorem rValue_len (r v u : List UInt8) (h : rValue r = some (v, u)) : u.length ≤ r.length := by
  unfold rValue at h
  split at h
  · rename_i t
    unfold rHex at h
    split at h
    · cases h
      have := tw_len isHex t
      simp
      omega
    · cases h
  · exact rVal_len _ _ _ _ v u h
theorem rPair_len {r u : List UInt8} {a : Av} (h : rPair r = some (a, u)) : u.length < r.length := by
  have hb := blanks_len r
  have ht := tw_len inTyB (blanksB r)
  cases hty : isTyB ((blanksB r).takeWhile inTyB) with
  | false => rw [rPair_a hty] at h; cases h
  | true =>
    cases hz : blanksB ((blanksB r).dropWhile inTyB) with
    | nil => rw [rPair_b hty hz rfl] at h; cases h
    | cons x r3 =>
      by_cases hx : x = 61
      · subst hx
        rw [rPair_c hty hz] at h
        cases hv : rValue (blanksB r3) with
        | none => rw [hv] at h; cases h
        | some p =>
          obtain ⟨v, r4⟩ := p
          rw [hv] at h
          cases h
          have h1 := rValue_len _ _ _ hv
          have h2 := blanks_len r4
          have h3 := blanks_len r3
          have h4 := blanks_len ((blanksB r).dropWhile inTyB)
          rw [hz, List.length_cons] at h4
          omega
      · rw [rPair_b hty hz (by simpa [headIs] using hx)] at h; cases h
def rPartK (f : Nat) (u : List UInt8) (o : List Av) : Option (List Av × List UInt8) := match u with
  | 43 :: u' => rPart f u' o
  | _ => some (o, u)
theorem rPart_step (f : Nat) (r : List UInt8) (o : List Av) : rPart (f + 1) r o = match rPair r with | none => none | some (a, u) => rPartK f u (o ++ [a]) := by
  rw [rPart]
  cases rPair r with
  | none => rfl
  | some p => obtain ⟨a, u⟩ := p; rfl
theorem rPart_fuel : ∀ (f g : Nat) (r : List UInt8) (o : List Av), r.length < f → r.length < g → rPart f r o = rPart g r o
  | 0, _, r, _, h, _ => by omega
  | _, 0, r, _, _, h => by omega
  | f + 1, g + 1, r, o, h1, h2 => by
    rw [rPart_step, rPart_step]
    cases hp : rPair r with
    | none => rfl
    | some p =>
      obtain ⟨a, u⟩ := p
      have hl := rPair_len hp
      simp only
      unfold rPartK
      split
      · simp at hl; exact rPart_fuel f g _ _ (by omega) (by omega)
      · rfl
theorem rPart_len : ∀ (f : Nat) (r : List UInt8) (o p : List Av) (u : List UInt8), rPart f r o = some (p, u) → u.length < r.length
  | 0, r, o, p, u, h => by cases h
  | f + 1, r, o, p, u, h => by
    rw [rPart_step] at h
    cases hp : rPair r with
    | none => rw [hp] at h; cases h
    | some q =>
      obtain ⟨a, z⟩ := q
      rw [hp] at h
      have hl := rPair_len hp
      simp only at h
      unfold rPartK at h
      split at h
      · have := rPart_len f _ _ p u h
        simp at hl
        omega
      · cases h; exact hl
/-- A part that the call made, not empty. -/
def Avs (B : Nat) (w : World) (v : Value) (r : List Av) : Prop := r ≠ [] ∧ w.ownsRow B 146 2 v r.length (aV r)
theorem avs_own {B : Nat} {w : World} {v : Value} {r : List Av} (h : w.ownsRow B 146 2 v r.length (aV r)) (h0 : r ≠ []) : Avs B w v r := ⟨h0, h⟩
theorem Avs.form {B : Nat} {w : World} {v : Value} {r : List Av} (h : Avs B w v r) : ∃ g cap, v = .slice (some ⟨g, 0, none⟩) r.length cap ∧ B ≤ g ∧ g < w.heap.size ∧ r.length ≤ cap ∧
    ∀ j a, r[j]? = some a → w.cell? ⟨g, 2 * j, none⟩ = some (.string ⟨a.1.toArray⟩) ∧ w.cell? ⟨g, 2 * j + 1, none⟩ = some (.string ⟨a.2.toArray⟩) := by
  obtain ⟨h0, h⟩ := h
  rcases id h.2 with ⟨_, hz⟩ | ⟨g, cap, cur, hv, hbg, hg, hc, r'⟩
  · exact absurd (List.eq_nil_of_length_eq_zero hz) h0
  · refine ⟨g, cap, hv, hbg, (Array.getElem?_eq_some_iff.1 hg).1, hc, fun j a hj => ?_⟩
    subst hv
    obtain ⟨h1, h2⟩ := aV_get r j a hj
    have c1 := h.cells (g := g) rfl _ _ h1
    have c2 := h.cells (g := g) rfl _ _ h2
    rw [Addr.add_lit, Nat.zero_add] at c1 c2
    exact ⟨c1, c2⟩
theorem Avs.kept {b B : Nat} {w w' : World} {v : Value} {r : List Av} (h : Avs B w v r) (hk : Kept b w w') (hb : b < B) : Avs B w' v r := ⟨h.1, own_kept h.2 hk hb⟩
theorem own_new2 (w1 : World) (base : Nat) (hb : base ≤ w1.heap.size) (a : Av) :
    (w1.alloc (.cells #[.string ⟨a.1.toArray⟩, .string ⟨a.2.toArray⟩] 146)).ownsRow base 146 2 (.slice (some ⟨w1.heap.size, 0, none⟩) 1 1) 1 (aV [a]) :=
  ⟨by simp [aV], .inr ⟨w1.heap.size, 1, _, rfl, hb, alloc_at _ _ _ rfl, Nat.le_refl _, by decide, rfl, rfl⟩⟩
theorem cells_new (w : World) (xs : List Value) (t : TypeId) : ∀ j u, xs[j]? = some u → (w.alloc (.cells xs.toArray t)).cell? ((⟨w.heap.size, 0, none⟩ : Addr).add j) = some u := by
  intro j u hj
  rw [Addr.add_lit, Nat.zero_add]
  rw [Lib.cell_of_heap (alloc_at w _ _ rfl)]
  simpa using hj
def PtRel (w : World) (b : Nat) (s : List UInt8) (ANS : Option (List Av × List UInt8)) (v : Value) (wr : World) : Prop :=
  ∃ (k f : Nat) (o : List Av), o ≠ [] ∧ o.length ≤ k ∧ k ≤ s.length ∧ RAt wr b s k ∧ Kept b w wr ∧ wr.ownsRow w.heap.size 146 2 v o.length (aV o) ∧ (s.drop k).length ≤ f ∧ rPartK f (s.drop k) o = ANS
set_option maxRecDepth 100000 in
set_option maxHeartbeats 4000000 in
theorem part_any (b : Nat) (s r : List UInt8) (w : World) (h : Rd w b s r) (hs : s.length ≤ 1099511627776) (hE : EnvK b w) :
    Calls Tryz.prog 198 #[.pointer (some ⟨b, 0, none⟩)] w fun e w' => (match rPart (r.length + 1) r [] with | some (p, r') => (∃ v, e = .returned v ∧ Avs w.heap.size w' v p) ∧ Rd w' b s r' | none => e = .panicked [{ v := perr, recovered := false }]) ∧ Kept b w w' := by
  have hlb : b < w.heap.size := by obtain ⟨_, _, _, hh⟩ := h; exact hh.lt
  obtain ⟨i0, hi0, hz0, hz1, hz2⟩ := info_parts Tryz.infoAva
  obtain ⟨ANS, hA⟩ : ∃ ANS, rPart (r.length + 1) r [] = ANS := ⟨_, rfl⟩
  rw [hA]
  rw [rPart_step] at hA
  obtain ⟨PR, hPR⟩ : ∃ PR : Ending → World → Prop, PR = fun e w' => (match ANS with | some (p, r') => (∃ v, e = .returned v ∧ Avs w.heap.size w' v p) ∧ Rd w' b s r' | none => e = .panicked [{ v := perr, recovered := false }]) ∧ Kept b w w' := ⟨_, rfl⟩
  rw [← hPR]
  have HP := Lib.hid hPR
  clear hPR
  have kp := pair_any b s r w h hs hE
  have hrs : r.length ≤ s.length := by obtain ⟨k, _, e, _⟩ := h; rw [← e, List.length_drop]; omega
  cases hp : rPair r with
  | none =>
    rw [hp] at kp hA
    go_enter Tryz.func198, Tryz.ntmps198
    go_wp2_with (go_at_call 249; refine Calls.mono (show Calls _ _ _ _ _ from kp) ?_; rintro e w1 ⟨rfl, hk1⟩)
    refine ⟨rfl, ?_⟩
    rw [HP.out, ← hA]
    exact ⟨rfl, hk1⟩
  | some q =>
    obtain ⟨a, u⟩ := q
    have hul := rPair_len hp
    rw [hp] at kp hA
    simp only [List.nil_append] at hA
    have HA := Lib.hid hA
    clear hA
    go_enter Tryz.func198, Tryz.ntmps198
    go_wp2_with (go_at_call 249; refine Calls.mono (show Calls _ _ _ _ _ from kp) ?_; rintro e w1 ⟨⟨rfl, hr1⟩, hk1⟩)
    have hrA := hr1.below ((Below.refl w1.heap.size w1).alloc (Nat.le_refl _) (.cells #[.string ⟨a.1.toArray⟩, .string ⟨a.2.toArray⟩] 146))
    have hkA := hk1.alloc (.cells #[.string ⟨a.1.toArray⟩, .string ⟨a.2.toArray⟩] 146)
    have hoA := own_new2 w1 w.heap.size hk1.2.2.2.1 a
    generalize w1.alloc (.cells #[.string ⟨a.1.toArray⟩, .string ⟨a.2.toArray⟩] 146) = wA at hrA hkA hoA ⊢
    go_loopw [3] (fun v wr => PtRel w b s ANS v wr) (fun _ wr => s.length - posOf wr b)
    case atStart =>
      obtain ⟨k, hk, hdr, hR⟩ := hrA
      exact ⟨k, r.length, [a], by simp, by have := congrArg List.length hdr; simp at this ⊢; omega, hk, hR, hkA, hoA, by rw [hdr]; omega, by rw [hdr]; exact HA.out⟩
    case round =>
      clear hrA hkA hoA hr1 hk1 HA kp hul hp
      obtain ⟨k, f, o, ho0, hok, hk, hR, hkp, hown, hf, hans⟩ := hrel
      have hpos := hR.pos
      obtain ⟨z, hz⟩ : ∃ z, s.drop k = z := ⟨_, rfl⟩
      rw [hz] at hans hf
      have ki := is_any b k s z 43 wr hR hk hz
      cases h43 : headIs z 43 with
      | false =>
        rw [h43] at ki
        have hA2 : ANS = some (o, z) := by
          rw [← hans]
          unfold rPartK
          split
          · simp [headIs] at h43
          · rfl
        go_wp2_with (go_at_call 199; refine Calls.mono (show Calls _ _ _ _ _ from ki) ?_; rintro e w2 ⟨rfl, m, hw2⟩; have hR2 : RAt w2 b s k := (by rw [hw2]; exact hR.drewN m); have hkp2 : Kept b w w2 := (by rw [hw2]; exact hkp.trans (Kept.of_below (Below.drewN (Below.refl _ _) m))); have hown2 : w2.ownsRow w.heap.size 146 2 u3 o.length (aV o) := (by rw [hw2]; exact hown); clear hw2)
        rw [HP.out, hA2]
        exact ⟨⟨⟨_, rfl, avs_own hown2 ho0⟩, k, hk, hz, hR2⟩, hkp2⟩
      | true =>
        rw [h43] at ki
        obtain ⟨z', rfl⟩ : ∃ t, z = 43 :: t := by
          cases z with
          | nil => simp [headIs] at h43
          | cons x t => simp [headIs] at h43; subst h43; exact ⟨t, rfl⟩
        obtain ⟨hlt, hdr⟩ := drop_lt hz
        rw [show rPartK f (43 :: z') o = rPart f z' o from rfl] at hans
        obtain ⟨f', rfl⟩ : ∃ f', f = f' + 1 := ⟨f - 1, by simp at hf; omega⟩
        rw [rPart_step] at hans
        go_upto_region 4 with (go_at_call 199; refine Calls.mono (show Calls _ _ _ _ _ from ki) ?_; rintro e w2 ⟨rfl, m, hw2⟩; have hR2 : RAt w2 b s k := (by rw [hw2]; exact hR.drewN m); have hkp2 : Kept b w w2 := (by rw [hw2]; exact hkp.trans (Kept.of_below (Below.drewN (Below.refl _ _) m))); have hown2 : w2.ownsRow w.heap.size 146 2 u3 o.length (aV o) := (by rw [hw2]; exact hown); clear hw2; obtain ⟨q0, q1, q2⟩ := hR2.cells)
        have hR3 := hR2.set1
        have hkp3 := hkp2.trans (Kept.set b w2 1 (.int .i64 ((k : Int) + 1)))
        have hown3 := own_kept hown2 (Kept.set b w2 1 (.int .i64 ((k : Int) + 1))) hlb
        generalize w2.setCell ⟨b, 1, none⟩ (.int .i64 ((k : Int) + 1)) = w3 at hR3 hkp3 hown3 ⊢
        clear q0 q1 q2 hR2 hkp2 hown2 hown hkp hR
        have kp := pair_any b s z' w3 ⟨k + 1, hlt, hdr, hR3⟩ hs (hE.kept hkp3)
        cases hp : rPair z' with
        | none =>
          rw [hp] at kp hans
          go_wp2_with (go_at_call 249; refine Calls.mono (show Calls _ _ _ _ _ from kp) ?_; rintro e w4 ⟨rfl, hk4⟩)
          refine ⟨rfl, ?_⟩
          rw [HP.out, ← hans]
          exact ⟨rfl, hkp3.trans hk4⟩
        | some q =>
          obtain ⟨a, u⟩ := q
          have hul := rPair_len hp
          rw [hp] at kp hans
          have HS := Lib.hid hans
          clear hans hp
          go_wp2_with (first | (go_at_call 249; refine Calls.mono (show Calls _ _ _ _ _ from kp) ?_; rintro e w4 ⟨⟨rfl, hr4⟩, hk4⟩; have hown4 := own_kept hown3 hk4 hlb; have hkp4 := hkp3.trans hk4; have hsz4 := hkp4.2.2.2.1) | (at_builtin; refine wpList_append_own _ rfl (.tmp 16) (.tmp 19) 66 rfl w.heap.size 146 i0 (.agg #[.string ⟨#[]⟩, .string ⟨#[]⟩]) 2 32 Tryz.underlying66 hi0 hz0 hz1 hz2 rfl (by decide) u3 o.length (aV o) rfl (hown4.alloc _) ⟨w4.heap.size, 0, none⟩ 1 1 [.string ⟨a.1.toArray⟩, .string ⟨a.2.toArray⟩] rfl rfl ?d1 ?d2 ?d3 ?d4 ?d5 ?_))
          case d1 => exact cells_new w4 [.string ⟨a.1.toArray⟩, .string ⟨a.2.toArray⟩] 146
          case d2 => intro u hu; simp at hu; rcases hu with rfl | rfl <;> rfl
          case d3 => unfold maxLen; omega
          case d4 => omega
          case d5 => simp; omega
          intro v' w7 ho7 hg7 _
          obtain ⟨k', hk', hdr', h6⟩ := hr4
          have hkk : k + 1 ≤ k' := by
            have e1 := congrArg List.length hdr'
            have e2 := congrArg List.length hdr
            simp at e1 e2
            omega
          have h7 : RAt w7 b s k' := RAt.grown (RAt.below h6 ((Below.refl _ _).alloc (Nat.le_refl _) _)) hg7 (fun e => by have := (hown4.lt b e).1; omega)
          have hkp7 : Kept b w w7 := (hkp4.alloc _).grown hg7 (fun j hj => (hown4.lt j hj).1)
          go_wp2_with fail
          go_roundw
          case rel =>
            refine ⟨k', f', o ++ [a], by simp, by simp; omega, hk', h7, hkp7, ?_, ?_, ?_⟩
            · rw [List.length_append, aV_append]
              exact ho7
            · rw [hdr']; simp at hf; omega
            · rw [hdr']; exact HS.out
          case measure => rw [hpos, h7.pos]; omega
end Go.Proofs.YtegigcneimjimaaGreatDoor
