/- dn's reader: a value. -/
import Derived.Test.YtegigcneimjimaaGreatDoorDnX
import Derived.Test.YtegigcneimjimaaGreatDoorDnE
namespace Go.Proofs.YtegigcneimjimaaGreatDoor
open Go.RowKit Go.Lib

theorem own_kept {w w' : World} {b base e size n : Nat} {v : Value} {xs : List Value} (h : w.ownsRow base e size v n xs) (hk : Kept b w w') (hb : b < base) : w'.ownsRow base e size v n xs := by
  refine ⟨h.1, ?_⟩
  rcases h.2 with h' | ⟨g, cap, cur, hv, hbg, hg, r⟩
  · exact .inl h'
  · exact .inr ⟨g, cap, cur, hv, hbg, by rw [hk.2.2.2.2 g (Array.getElem?_eq_some_iff.1 hg).1 (by omega)]; exact hg, r⟩
theorem Kept.grown {b : Nat} {w wr w' : World} {row : Option Nat} (h : Kept b w wr) (hg : wr.grownBy w' row) (hr : ∀ k, row = some k → w.heap.size ≤ k) : Kept b w w' :=
  ⟨hg.os.trans h.1, hg.tape.trans h.2.1, hg.output.trans h.2.2.1, Nat.le_trans h.2.2.2.1 hg.size, fun j hj hne => (hg.block j (Nat.lt_of_lt_of_le hj h.2.2.2.1) (fun e => by have := hr j e.symm; omega)).trans (h.2.2.2.2 j hj hne)⟩
theorem Kept.alloc {b : Nat} {w wr : World} (h : Kept b w wr) (o : Obj) : Kept b w (wr.alloc o) :=
  h.trans (Kept.of_below ((Below.refl _ _).alloc (Nat.le_refl _) o))
theorem RAt.grown {b k : Nat} {s : List UInt8} {wr w' : World} {row : Option Nat} (h : RAt wr b s k) (hg : wr.grownBy w' row) (hr : row ≠ some b) : RAt w' b s k :=
  (hg.block b h.lt (fun e => hr e.symm)).trans h
/-- string(b[:n]) of a row of the call's own. -/
theorem own_take {w : World} {base : Nat} {v : Value} {o : List UInt8} {n : Nat} (h : w.ownsRow base 5 1 v o.length (bV o)) (hn : n ≤ o.length) :
    ∃ a cap, v = .slice a o.length cap ∧ n ≤ cap ∧ (a = none → o = [] ∧ cap = 0) ∧ (∀ A, a = some A → A.spot = none) ∧ (convert 153 9 (.slice a n cap)).run Tryz.prog w = .ok (.string ⟨(o.take n).toArray⟩) w := by
  rcases h.2 with ⟨rfl, h0⟩ | ⟨g, cap, cur, rfl, hbg, hg, hc, r⟩
  · obtain rfl : o = [] := List.eq_nil_of_length_eq_zero h0
    obtain rfl : n = 0 := by simpa using hn
    exact ⟨none, 0, rfl, Nat.le_refl _, fun _ => ⟨rfl, rfl⟩, fun _ hh => (by cases hh), run_str_nil w _ _ _ none 0 Tryz.underlying153 Tryz.underlying5 Tryz.underlying9⟩
  · refine ⟨some ⟨g, 0, none⟩, cap, rfl, by omega, fun hh => (by cases hh), fun A hh => (by cases hh; rfl), ?_⟩
    have hl : (o.take n).length = n := by rw [List.length_take]; omega
    have := run_str_cells (P := Tryz.prog) w 153 9 5 ⟨g, 0, none⟩ cap (o.take n) Tryz.underlying153 Tryz.underlying5 Tryz.underlying9 (fun j u hj => h.cells (g := g) rfl j u (by
      simp only [bV, List.getElem?_map] at hj ⊢
      cases hq : (o.take n)[j]? with
      | none => rw [hq] at hj; cases hj
      | some x =>
        rw [hq] at hj
        have hx : o[j]? = some x := by
          rw [List.getElem?_take] at hq
          split at hq
          · exact hq
          · cases hq
        rw [hx]
        exact hj))
    rw [hl] at this
    exact this
def VRel (w : World) (b : Nat) (s : List UInt8) (ANS : Option (List UInt8 × List UInt8)) (v n : Value) (wr : World) : Prop :=
  ∃ (k L : Nat) (o : List UInt8), n = .int .i64 (L : Int) ∧ L ≤ o.length ∧ k ≤ s.length ∧ o.length ≤ k ∧ RAt wr b s k ∧ Kept b w wr ∧ wr.ownsRow w.heap.size 5 1 v o.length (bV o) ∧ rVal (s.drop k).length (s.drop k) o L = ANS
theorem rEsc_len {t u : List UInt8} {x : UInt8} (he : rEsc t = some (x, u)) : u.length < t.length := by
  unfold rEsc at he
  split at he
  · cases he
  · split at he
    · cases he; simp
    · split at he
      · cases he
      · split at he
        · cases he; simp; omega
        · cases he
theorem rVal_fuel : ∀ (f g : Nat) (r b : List UInt8) (n : Nat), r.length ≤ f → r.length ≤ g → rVal f r b n = rVal g r b n
  | f, g, [], b, n, _, _ => by cases f <;> cases g <;> rfl
  | 0, _, c :: t, _, _, h, _ => by simp at h
  | _, 0, c :: t, _, _, _, h => by simp at h
  | f + 1, g + 1, c :: t, b, n, h1, h2 => by
    have i1 : t.length ≤ f := by simpa using h1
    have i2 : t.length ≤ g := by simpa using h2
    rw [rVal, rVal]
    split
    · rfl
    · split
      · cases he : rEsc t with
        | none => rfl
        | some p =>
          obtain ⟨x, u⟩ := p
          have hu := rEsc_len he
          exact rVal_fuel f g u _ _ (by omega) (by omega)
      · split
        · rfl
        · exact rVal_fuel f g t _ _ i1 i2
set_option maxRecDepth 100000 in
set_option maxHeartbeats 4000000 in
theorem value_any (b : Nat) (s r : List UInt8) (w : World) (h : Rd w b s r) (hs : s.length ≤ 1099511627776) :
    Calls Tryz.prog 277 #[.pointer (some ⟨b, 0, none⟩)] w fun e w' => (match rValue r with | some (v, r') => e = .returned (.string ⟨v.toArray⟩) ∧ Rd w' b s r' | none => e = .panicked [{ v := perr, recovered := false }]) ∧ Kept b w w' := by
  have hlb : b < w.heap.size := by obtain ⟨_, _, _, hh⟩ := h; exact hh.lt
  by_cases hh : headIs r 35 = true
  · obtain ⟨t, rfl⟩ : ∃ t, r = 35 :: t := by
      cases r with
      | nil => simp [headIs] at hh
      | cons x t => simp [headIs] at hh; subst hh; exact ⟨t, rfl⟩
    show Calls _ _ _ _ fun e w' => (match rHex t with | some (v, r') => e = .returned (.string ⟨v.toArray⟩) ∧ Rd w' b s r' | none => e = .panicked [{ v := perr, recovered := false }]) ∧ Kept b w w'
    obtain ⟨k, hk, hr, hR⟩ := h
    have k1 := is_any b k s _ 35 w hR hk hr
    rw [hh] at k1
    obtain ⟨PR, hPR⟩ : ∃ PR : Ending → World → Prop, PR = fun e w' => (match rHex t with | some (v, r') => e = .returned (.string ⟨v.toArray⟩) ∧ Rd w' b s r' | none => e = .panicked [{ v := perr, recovered := false }]) ∧ Kept b w w' := ⟨_, rfl⟩
    rw [← hPR]
    have HP := Lib.hid hPR
    clear hPR
    cases hx : rHex t with
    | none =>
      go_enter Tryz.func277, Tryz.ntmps277
      go_wp2_with (first | (go_at_call 199; refine Calls.mono (show Calls _ _ _ _ _ from k1) ?_; rintro e w1 ⟨rfl, m, hw1⟩; have h1 : Rd w1 b s (35 :: t) := (by rw [hw1]; exact ⟨k, hk, hr, hR.drewN m⟩); have hkp1 : Kept b w w1 := (by rw [hw1]; exact Kept.of_below (Below.drewN (Below.refl _ _) m)); clear hw1; have k2 := hex_any b s t w1 h1 hs; rw [hx] at k2) | (go_at_call 288; refine Calls.mono (show Calls _ _ _ _ _ from k2) ?_; rintro e w2 ⟨rfl, hkp2⟩))
      refine ⟨rfl, ?_⟩
      rw [HP.out, hx]
      exact ⟨rfl, hkp1.trans hkp2⟩
    | some p =>
      obtain ⟨V, u⟩ := p
      go_enter Tryz.func277, Tryz.ntmps277
      go_wp2_with (first | (go_at_call 199; refine Calls.mono (show Calls _ _ _ _ _ from k1) ?_; rintro e w1 ⟨rfl, m, hw1⟩; have h1 : Rd w1 b s (35 :: t) := (by rw [hw1]; exact ⟨k, hk, hr, hR.drewN m⟩); have hkp1 : Kept b w w1 := (by rw [hw1]; exact Kept.of_below (Below.drewN (Below.refl _ _) m)); clear hw1; have k2 := hex_any b s t w1 h1 hs; rw [hx] at k2) | (go_at_call 288; refine Calls.mono (show Calls _ _ _ _ _ from k2) ?_; rintro e w2 ⟨⟨rfl, hrd2⟩, hkp2⟩))
      rw [HP.out, hx]
      exact ⟨⟨rfl, hrd2⟩, hkp1.trans hkp2⟩
  · have hh2 : headIs r 35 = false := by simpa using hh
    have hval : rValue r = rVal r.length r [] 0 := by
      cases r with
      | nil => rfl
      | cons x t =>
        have hx : x ≠ 35 := by simpa [headIs] using hh
        unfold rValue
        split
        · rename_i heq; cases heq; exact absurd rfl hx
        · rfl
    rw [hval]
    obtain ⟨ANS, hA⟩ : ∃ ANS, rVal r.length r [] 0 = ANS := ⟨_, rfl⟩
    rw [hA]
    obtain ⟨PR, hPR⟩ : ∃ PR : Ending → World → Prop, PR = fun e w' => (match ANS with | some (v, r') => e = .returned (.string ⟨v.toArray⟩) ∧ Rd w' b s r' | none => e = .panicked [{ v := perr, recovered := false }]) ∧ Kept b w w' := ⟨_, rfl⟩
    rw [← hPR]
    have HP := Lib.hid hPR
    have HA := Lib.hid hA
    clear hPR hA hval hh
    obtain ⟨k0, hk0, hr0, hR0⟩ := h
    have k1 := is_any b k0 s _ 35 w hR0 hk0 hr0
    rw [hh2] at k1
    obtain ⟨i0, hi0, hz0, hz1, hz2⟩ := info_parts Tryz.infoByte
    go_enter Tryz.func277, Tryz.ntmps277
    go_wp2_with (go_at_call 199; refine Calls.mono (show Calls _ _ _ _ _ from k1) ?_; rintro e w1 ⟨rfl, m, hw1⟩; have h1 : RAt w1 b s k0 := (by rw [hw1]; exact hR0.drewN m); have hkp1 : Kept b w w1 := (by rw [hw1]; exact Kept.of_below (Below.drewN (Below.refl _ _) m)); clear hw1)
    go_loopw [3, 4] (fun v n wr => VRel w b s ANS v n wr) (fun _ _ wr => s.length - posOf wr b)
    case atStart => exact ⟨k0, 0, [], rfl, by simp, hk0, by simp, h1, hkp1, World.ownsRow_nil _ _ _ _, by rw [hr0]; exact HA.out⟩
    case round =>
      clear h1 hkp1 k1 HA
      obtain ⟨k, L, o, rfl, hL, hk, hok, hR, hkp, hown, hans⟩ := hrel
      have hpos := hR.pos
      obtain ⟨u, hu⟩ : ∃ u, s.drop k = u := ⟨_, rfl⟩
      rw [hu] at hans
      have ke := ended_any b k s wr hR
      cases u with
      | nil =>
        have hkl : k = s.length := by have := congrArg List.length hu; simp at this; omega
        rw [decide_eq_true hkl] at ke
        clear hkl
        rw [rVal] at hans
        go_wp2_with (go_at_call 200; refine Calls.mono (show Calls _ _ _ _ _ from ke) ?_; rintro e w2 ⟨rfl, m, hw2⟩; have h2 : RAt w2 b s k := (by rw [hw2]; exact hR.drewN m); have hkp2 : Kept b w w2 := (by rw [hw2]; exact hkp.trans (Kept.of_below (Below.drewN (Below.refl _ _) m))); have hown2 : w2.ownsRow w.heap.size 5 1 u3 o.length (bV o) := (by rw [hw2]; exact hown); clear hw2; obtain ⟨a, cap, hv, hcap, ha, hsp, hcv⟩ := own_take hown2 hL; subst hv)
        rw [HP.out, ← hans]
        exact ⟨⟨rfl, k, hk, hu, h2⟩, hkp2⟩
      | cons x t =>
        obtain ⟨hlt, hdr⟩ := drop_lt hu
        rw [decide_eq_false (show ¬ k = s.length by omega)] at ke
        have hb := fun h' => byte_at hu h'
        have hc44 : headIs (x :: t) 44 = (x == 44) := rfl
        have hc43 : headIs (x :: t) 43 = (x == 43) := rfl
        rw [List.length_cons, rVal] at hans
        by_cases x44 : x = 44
        · subst x44
          rw [if_pos (.inl rfl)] at hans
          rw [show ((44 : UInt8) == 44) = true from rfl] at hc44
          clear hc43
          go_wp2_with (first | (go_at_call 200; refine Calls.mono (show Calls _ _ _ _ _ from ke) ?_; rintro e w2 ⟨rfl, m, hw2⟩; have h2 : RAt w2 b s k := (by rw [hw2]; exact hR.drewN m); have hkp2 : Kept b w w2 := (by rw [hw2]; exact hkp.trans (Kept.of_below (Below.drewN (Below.refl _ _) m))); have hown2 : w2.ownsRow w.heap.size 5 1 u3 o.length (bV o) := (by rw [hw2]; exact hown); clear hw2; have kc := is_any b k s _ 44 w2 h2 hk hu; rw [hc44] at kc) | (go_at_call_of 199 (Value.int .u8 44); refine Calls.mono (show Calls _ _ _ _ _ from kc) ?_; rintro e w3 ⟨rfl, m, hw3⟩; have h3 : RAt w3 b s k := (by rw [hw3]; exact h2.drewN m); have hkp3 : Kept b w w3 := (by rw [hw3]; exact hkp2.trans (Kept.of_below (Below.drewN (Below.refl _ _) m))); have hown3 : w3.ownsRow w.heap.size 5 1 u3 o.length (bV o) := (by rw [hw3]; exact hown2); clear hw3; obtain ⟨a, cap, hv, hcap, ha, hsp, hcv⟩ := own_take hown3 hL; subst hv))
          rw [HP.out, ← hans]
          exact ⟨⟨rfl, k, hk, hu, h3⟩, hkp3⟩
        · have x44b : (x == 44) = false := by simpa using x44
          rw [x44b] at hc44
          by_cases x43 : x = 43
          · subst x43
            rw [if_pos (.inr rfl)] at hans
            rw [show ((43 : UInt8) == 43) = true from rfl] at hc43
            go_wp2_with (first | (go_at_call 200; refine Calls.mono (show Calls _ _ _ _ _ from ke) ?_; rintro e w2 ⟨rfl, m, hw2⟩; have h2 : RAt w2 b s k := (by rw [hw2]; exact hR.drewN m); have hkp2 : Kept b w w2 := (by rw [hw2]; exact hkp.trans (Kept.of_below (Below.drewN (Below.refl _ _) m))); have hown2 : w2.ownsRow w.heap.size 5 1 u3 o.length (bV o) := (by rw [hw2]; exact hown); clear hw2; have kc := is_any b k s _ 44 w2 h2 hk hu; rw [hc44] at kc) | (go_at_call_of 199 (Value.int .u8 44); refine Calls.mono (show Calls _ _ _ _ _ from kc) ?_; rintro e w3 ⟨rfl, m, hw3⟩; have h3 : RAt w3 b s k := (by rw [hw3]; exact h2.drewN m); have hkp3 : Kept b w w3 := (by rw [hw3]; exact hkp2.trans (Kept.of_below (Below.drewN (Below.refl _ _) m))); have hown3 : w3.ownsRow w.heap.size 5 1 u3 o.length (bV o) := (by rw [hw3]; exact hown2); clear hw3; have kp := is_any b k s _ 43 w3 h3 hk hu; rw [hc43] at kp) | (go_at_call_of 199 (Value.int .u8 43); refine Calls.mono (show Calls _ _ _ _ _ from kp) ?_; rintro e w4 ⟨rfl, m, hw4⟩; have h4 : RAt w4 b s k := (by rw [hw4]; exact h3.drewN m); have hkp4 : Kept b w w4 := (by rw [hw4]; exact hkp3.trans (Kept.of_below (Below.drewN (Below.refl _ _) m))); have hown4 : w4.ownsRow w.heap.size 5 1 u3 o.length (bV o) := (by rw [hw4]; exact hown3); clear hw4; obtain ⟨a, cap, hv, hcap, ha, hsp, hcv⟩ := own_take hown4 hL; subst hv))
            rw [HP.out, ← hans]
            exact ⟨⟨rfl, k, hk, hu, h4⟩, hkp4⟩
          · have x43b : (x == 43) = false := by simpa using x43
            rw [x43b] at hc43
            rw [if_neg (by rintro (hh | hh); exact x44 hh; exact x43 hh)] at hans
            clear x44b x43b
            go_upto_region 6 with (first | (go_at_call 200; refine Calls.mono (show Calls _ _ _ _ _ from ke) ?_; rintro e w2 ⟨rfl, m, hw2⟩; have h2 : RAt w2 b s k := (by rw [hw2]; exact hR.drewN m); have hkp2 : Kept b w w2 := (by rw [hw2]; exact hkp.trans (Kept.of_below (Below.drewN (Below.refl _ _) m))); have hown2 : w2.ownsRow w.heap.size 5 1 u3 o.length (bV o) := (by rw [hw2]; exact hown); clear hw2; have kc := is_any b k s _ 44 w2 h2 hk hu; rw [hc44] at kc) | (go_at_call_of 199 (Value.int .u8 44); refine Calls.mono (show Calls _ _ _ _ _ from kc) ?_; rintro e w3 ⟨rfl, m, hw3⟩; have h3 : RAt w3 b s k := (by rw [hw3]; exact h2.drewN m); have hkp3 : Kept b w w3 := (by rw [hw3]; exact hkp2.trans (Kept.of_below (Below.drewN (Below.refl _ _) m))); have hown3 : w3.ownsRow w.heap.size 5 1 u3 o.length (bV o) := (by rw [hw3]; exact hown2); clear hw3; have kp := is_any b k s _ 43 w3 h3 hk hu; rw [hc43] at kp) | (go_at_call_of 199 (Value.int .u8 43); refine Calls.mono (show Calls _ _ _ _ _ from kp) ?_; rintro e w4 ⟨rfl, m, hw4⟩; have h4 : RAt w4 b s k := (by rw [hw4]; exact h3.drewN m); have hkp4 : Kept b w w4 := (by rw [hw4]; exact hkp3.trans (Kept.of_below (Below.drewN (Below.refl _ _) m))); have hown4 : w4.ownsRow w.heap.size 5 1 u3 o.length (bV o) := (by rw [hw4]; exact hown3); clear hw4))
            obtain ⟨q0, q1, q2⟩ := h4.cells
            have hlti : (k : Int) < (s.length : Int) := by omega
            go_quiet (fail)
            have h5 : RAt (w4.drewN nq) b s k := h4.drewN nq
            have hkp5 : Kept b w (w4.drewN nq) := hkp4.trans (Kept.of_below (Below.drewN (Below.refl _ _) nq))
            have hown5 : (w4.drewN nq).ownsRow w.heap.size 5 1 u3 o.length (bV o) := hown4
            clear q0 q1 q2 hown4 hown3 hown2 hown hkp4 hkp3 hkp2 hkp h4 h3 h2 hR kp kc ke
            generalize w4.drewN nq = w5 at h5 hkp5 hown5 ⊢
            have hsz5 := hkp5.2.2.2.1
            by_cases x92 : x = 92
            · subst x92
              rw [if_pos rfl] at hans
              have kx := escape_any b s t w5 ⟨k, hk, hu, h5⟩ hs
              cases he : rEsc t with
              | none =>
                rw [he] at hans kx
                simp only at hans
                go_wp2_with (go_at_call 289; refine Calls.mono (show Calls _ _ _ _ _ from kx) ?_; rintro e w6 ⟨rfl, hkp6⟩)
                refine ⟨rfl, ?_⟩
                rw [HP.out, ← hans]
                exact ⟨rfl, hkp5.trans hkp6⟩
              | some p =>
                obtain ⟨y, u⟩ := p
                have hul := rEsc_len he
                rw [he] at hans kx
                simp only at hans
                have HS := Lib.hid hans
                clear hans he
                go_wp2_with (first | (go_at_call 289; refine Calls.mono (show Calls _ _ _ _ _ from kx) ?_; rintro e w6 ⟨⟨rfl, hrd6⟩, hkp6⟩; have hown6 := own_kept hown5 hkp6 hlb; have hkpw6 := hkp5.trans hkp6; have hsz6 := hkpw6.2.2.2.1) | (at_builtin; refine wpList_append_own _ rfl (.tmp 35) (.tmp 38) 153 rfl w.heap.size 5 i0 (.int .u8 0) 1 1 Tryz.underlying153 hi0 hz0 hz1 hz2 rfl (by decide) u3 o.length (bV o) rfl (hown6.alloc _) ⟨w6.heap.size, 0, none⟩ 1 1 [.int .u8 (y.toNat : Int)] rfl rfl (cell_one_new _ _ _) ?d2 ?d3 ?d4 ?d5 ?_))
                case d2 => intro u hu; simp at hu; subst hu; rfl
                case d3 => unfold maxLen; omega
                case d4 => omega
                case d5 => simp; omega
                intro v' w7 ho7 hg7 _
                obtain ⟨k', hk', hdr', h6⟩ := hrd6
                have hkk : k + 1 ≤ k' := by
                  have e1 := congrArg List.length hdr'
                  have e2 := congrArg List.length hdr
                  simp at e1 e2
                  omega
                have h7 : RAt w7 b s k' := RAt.grown (RAt.below h6 ((Below.refl _ _).alloc (Nat.le_refl _) _)) hg7 (fun e => by have := (hown6.lt b e).1; omega)
                have hkp7 : Kept b w w7 := (hkpw6.alloc _).grown hg7 (fun j hj => (hown6.lt j hj).1)
                obtain ⟨a', n', cap', hv'⟩ : ∃ a' n' cap', v' = .slice a' (o.length + 1) cap' := by
                  rcases ho7.2 with ⟨hv, h0⟩ | ⟨g, cap, cur, hv, _⟩
                  · omega
                  · exact ⟨_, 0, _, hv⟩
                subst hv'
                go_wp2_with fail
                go_roundw
                case rel =>
                  refine ⟨k', o.length + 1, o ++ [y], rfl, by simp, hk', by simp; omega, h7, hkp7, ?_, ?_⟩
                  · rw [List.length_append, bV_append]
                    exact ho7
                  · rw [hdr', rVal_fuel u.length t.length u _ _ (Nat.le_refl _) (by omega)]
                    exact HS.out
                case measure => rw [hpos, h7.pos]; omega
            · have x92b : ((x.toNat : Int) == 92) = false := by
                rw [show ((x.toNat : Int) == 92) = (x == 92) from (beq_nat _ 92).trans (u8_beq x 92 (by decide)).symm]
                simpa using x92
              rw [if_neg x92] at hans
              have x0b : ((x.toNat : Int) == 0) = (x == 0) := (beq_nat _ 0).trans (u8_beq x 0 (by decide)).symm
              have ks := (Spc_l x w5).mono (R' := fun e w' => e = .returned (.int .i64 (indexByte specL x)) ∧ w5 = w') fun e w' hh => ⟨hh.1, hh.2.symm⟩
              have hm := mem_index specL x
              obtain ⟨V, hV⟩ : ∃ V, indexByte specL x = V := ⟨_, rfl⟩
              rw [hV] at ks hm
              clear hV
              by_cases x0 : x = 0
              · subst x0
                rw [if_pos (.inl rfl)] at hans
                rw [show ((0 : UInt8) == 0) = true from rfl] at x0b
                go_wp2_with fail
                refine ⟨rfl, ?_⟩
                rw [HP.out, ← hans]
                exact ⟨rfl, hkp5⟩
              · rw [show (x == 0) = false by simpa using x0] at x0b
                by_cases xs : x ∈ specL
                · rw [if_pos (.inr xs)] at hans
                  rw [decide_eq_true xs] at hm
                  have hm2 : decide (V ≥ 0) = true := hm
                  go_wp2_with (go_at_call 210; refine Calls.mono (show Calls _ _ _ _ _ from ks) ?_; rintro e w6 ⟨rfl, rfl⟩)
                  refine ⟨rfl, ?_⟩
                  rw [HP.out, ← hans]
                  exact ⟨rfl, hkp5⟩
                · rw [if_neg (by rintro (hh | hh); exact x0 hh; exact xs hh)] at hans
                  rw [decide_eq_false xs] at hm
                  have hm2 : decide (V ≥ 0) = false := hm
                  obtain ⟨q0, q1, q2⟩ := h5.cells
                  have h6 := h5.set1
                  have hkp6 := hkp5.trans (Kept.set b w5 1 (.int .i64 ((k : Int) + 1)))
                  have hown6 := own_kept hown5 (Kept.set b w5 1 (.int .i64 ((k : Int) + 1))) hlb
                  have HS := Lib.hid hans
                  clear hans hu
                  go_upto_region 13 with (go_at_call 210; refine Calls.mono (show Calls _ _ _ _ _ from ks) ?_; rintro e w6 ⟨rfl, rfl⟩)
                  generalize w5.setCell ⟨b, 1, none⟩ (.int .i64 ((k : Int) + 1)) = w6 at h6 hkp6 hown6 ⊢
                  clear q0 q1 q2 ks
                  have hsz6 := hkp6.2.2.2.1
                  have x32b : ((x.toNat : Int) == 32) = (x == 32) := (beq_nat _ 32).trans (u8_beq x 32 (by decide)).symm
                  by_cases x32 : x = 32
                  · rw [show (x == 32) = true by simpa using x32] at x32b
                    have hans2 := HS.out
                    rw [if_pos x32] at hans2
                    clear HS
                    have HS := Lib.hid hans2
                    clear hans2 x32
                    go_wp2_with (at_builtin; refine wpList_append_own _ rfl (.tmp 58) (.tmp 60) 153 rfl w.heap.size 5 i0 (.int .u8 0) 1 1 Tryz.underlying153 hi0 hz0 hz1 hz2 rfl (by decide) u3 o.length (bV o) rfl (hown6.alloc _) ⟨w6.heap.size, 0, none⟩ 1 1 [.int .u8 (x.toNat : Int)] rfl rfl (cell_one_new _ _ _) ?d2 ?d3 ?d4 ?d5 ?_)
                    case d2 => intro u hu; simp at hu; subst hu; rfl
                    case d3 => unfold maxLen; omega
                    case d4 => omega
                    case d5 => simp; omega
                    intro v' w7 ho7 hg7 _
                    have h7 : RAt w7 b s (k + 1) := RAt.grown (RAt.below h6 ((Below.refl _ _).alloc (Nat.le_refl _) _)) hg7 (fun e => by have := (hown6.lt b e).1; omega)
                    have hkp7 : Kept b w w7 := (hkp6.alloc _).grown hg7 (fun j hj => (hown6.lt j hj).1)
                    obtain ⟨a', n', cap', hv'⟩ : ∃ a' n' cap', v' = .slice a' (o.length + 1) cap' := by
                      rcases ho7.2 with ⟨hv, h0⟩ | ⟨g, cap, cur, hv, _⟩
                      · omega
                      · exact ⟨_, 0, _, hv⟩
                    subst hv'
                    go_wp2_with fail
                    go_roundw
                    case rel =>
                      refine ⟨k + 1, L, o ++ [x], rfl, by simp; omega, hlt, by simp; omega, h7, hkp7, ?_, ?_⟩
                      · rw [List.length_append, bV_append]
                        exact ho7
                      · rw [hdr]
                        exact HS.out
                    case measure => rw [hpos, h7.pos]; omega
                  · rw [show (x == 32) = false by simpa using x32] at x32b
                    have hans2 := HS.out
                    rw [if_neg x32] at hans2
                    clear HS
                    have HS := Lib.hid hans2
                    clear hans2 x32
                    go_wp2_with (at_builtin; refine wpList_append_own _ rfl (.tmp 58) (.tmp 60) 153 rfl w.heap.size 5 i0 (.int .u8 0) 1 1 Tryz.underlying153 hi0 hz0 hz1 hz2 rfl (by decide) u3 o.length (bV o) rfl (hown6.alloc _) ⟨w6.heap.size, 0, none⟩ 1 1 [.int .u8 (x.toNat : Int)] rfl rfl (cell_one_new _ _ _) ?d2 ?d3 ?d4 ?d5 ?_)
                    case d2 => intro u hu; simp at hu; subst hu; rfl
                    case d3 => unfold maxLen; omega
                    case d4 => omega
                    case d5 => simp; omega
                    intro v' w7 ho7 hg7 _
                    have h7 : RAt w7 b s (k + 1) := RAt.grown (RAt.below h6 ((Below.refl _ _).alloc (Nat.le_refl _) _)) hg7 (fun e => by have := (hown6.lt b e).1; omega)
                    have hkp7 : Kept b w w7 := (hkp6.alloc _).grown hg7 (fun j hj => (hown6.lt j hj).1)
                    obtain ⟨a', n', cap', hv'⟩ : ∃ a' n' cap', v' = .slice a' (o.length + 1) cap' := by
                      rcases ho7.2 with ⟨hv, h0⟩ | ⟨g, cap, cur, hv, _⟩
                      · omega
                      · exact ⟨_, 0, _, hv⟩
                    subst hv'
                    go_wp2_with fail
                    go_roundw
                    case rel =>
                      refine ⟨k + 1, o.length + 1, o ++ [x], rfl, by simp, hlt, by simp; omega, h7, hkp7, ?_, ?_⟩
                      · rw [List.length_append, bV_append]
                        exact ho7
                      · rw [hdr]
                        exact HS.out
                    case measure => rw [hpos, h7.pos]; omega
end Go.Proofs.YtegigcneimjimaaGreatDoor
