/- chanceryref4.name: what it returns. -/
import Derived.Test.YtegigcneimjimaaGreatDoorRf4Q
import Derived.Test.YtegigcneimjimaaGreatDoorPlainRfN
import Derived.Test.YtegigcneimjimaaGreatDoorDnJ
namespace Go.Proofs.YtegigcneimjimaaGreatDoor
open Go.RowKit Go.Lib

theorem refVal_len : ∀ (f : Nat) (r b : List UInt8) (n : Nat) (v u : List UInt8), refVal f r b n = some (v, u) → u.length ≤ r.length
  | f, [], b, n, v, u, h => by
    cases f <;> (rw [refVal] at h; cases h; simp)
  | 0, c :: t, b, n, v, u, h => by cases h
  | f + 1, c :: t, b, n, v, u, h => by
    rw [refVal] at h
    split at h
    · cases he : rEsc t with
      | none => rw [he] at h; cases h
      | some p =>
        obtain ⟨x, z⟩ := p
        rw [he] at h
        have h1 := rEsc_len he
        have h2 := refVal_len f z _ _ v u h
        simp
        omega
    · split at h
      · cases h; simp
      · have h2 := refVal_len f t _ _ v u h
        simp
        omega
theorem refValue_len (r v u : List UInt8) (h : refValue r = some (v, u)) : u.length ≤ r.length := by
  by_cases hr : headIs r 35 = true
  · obtain ⟨t, rfl⟩ := head_cons hr
    rw [refValue_hash] at h
    cases hx : rHex t with
    | none => rw [hx] at h; cases h
    | some p =>
      obtain ⟨v', u'⟩ := p
      rw [hx] at h
      cases h
      have h1 := rValue_len (35 :: t) v u' hx
      have h2 := blanks_len u'
      omega
  · rw [refValue_other (by simpa using hr)] at h
    exact refVal_len _ _ _ _ v u h
theorem refPair_len {r u : List UInt8} {a : Av} (h : refPair r = some (a, u)) : u.length < r.length := by
  have hb := blanks_len r
  have ht := tw_len inTyB (blanksB r)
  cases hty : isTyB ((blanksB r).takeWhile inTyB) with
  | false => rw [refPair_a hty] at h; cases h
  | true =>
    cases hz : blanksB ((blanksB r).dropWhile inTyB) with
    | nil => rw [refPair_b hty hz rfl] at h; cases h
    | cons x r3 =>
      by_cases hx : x = 61
      · subst hx
        rw [refPair_c hty hz] at h
        cases hv : refValue (blanksB r3) with
        | none => rw [hv] at h; cases h
        | some p =>
          obtain ⟨v, r4⟩ := p
          rw [hv] at h
          cases h
          have h1 := refValue_len _ _ _ hv
          have h3 := blanks_len r3
          have h4 := blanks_len ((blanksB r).dropWhile inTyB)
          rw [hz, List.length_cons] at h4
          omega
      · rw [refPair_b hty hz (by simpa [headIs] using hx)] at h; cases h
theorem refName_nameB (s : List UInt8) (h0 : s ≠ []) : refName (s.length + 1) s [] [] = nameB s := by
  rw [refName_rName _ _ _ _ (by omega)]
  unfold nameB
  rw [if_neg h0, rName_step]
  cases hp : rPart (s.length + 1) s [] with
  | none => rfl
  | some p =>
    obtain ⟨p, u⟩ := p
    have hl := rPart_len _ _ _ _ _ hp
    simp only
    unfold rNameK
    split
    · simp at hl; exact rName_fuel _ _ _ _ (by omega) (by omega)
    · rfl
    · rfl
def RNRel (wA : World) (b B : Nat) (s : List UInt8) (ANS : Option (List (List Av))) (s5 s6 : Value) (wr : World) : Prop :=
  ∃ (k f : Nat) (out : List (List Av)) (part : List Av) (vs : List Value), k ≤ s.length ∧ part.length ≤ k ∧ out.length ≤ k ∧ DAt wr b s k ∧ Kept b wA wr ∧ B ≤ wr.heap.size ∧
    wr.ownsRow B 146 2 s6 part.length (aV part) ∧ wr.ownsRow B 66 1 s5 out.length vs ∧ AllC B wr vs out ∧ Off vs s5 ∧ Off vs s6 ∧ Off [s5] s6 ∧ (s.drop k).length < f ∧ refName f (s.drop k) part out = ANS
def NamePost (w : World) (ANS : Option (List (List Av))) (e : Ending) (w' : World) : Prop :=
  (∃ v, e = .returned (.tuple #[v, .bool ANS.isSome]) ∧ DnAt w' v (ANS.getD [])) ∧ Below w.heap.size w w'
theorem refName_step (f : Nat) (r : List UInt8) (part : List Av) (out : List (List Av)) : refName (f + 1) r part out = match refPair r with | none => none | some (x, u) => (match u with | 43 :: u' => refName f u' (part ++ [x]) out | [] => some (out ++ [part ++ [x]]) | 44 :: u' => refName f u' [] (out ++ [part ++ [x]]) | _ => none) := by
  rw [refName]
  cases refPair r with
  | none => rfl
  | some p => obtain ⟨x, u⟩ := p; rfl
theorem none_at (w : World) : DnAt w (.slice none 0 0) [] := ⟨none, 0, rfl, Nat.le_refl _, fun h => absurd rfl h⟩
theorem AvsC.kept {b B : Nat} {w w' : World} {v : Value} {r : List Av} (h : AvsC B w v r) (hk : Kept b w w') (hb : b < B) : AvsC B w' v r := own_kept h hk hb
theorem AllC.kept {b B : Nat} {w w' : World} {vs : List Value} {d : List (List Av)} (h : AllC B w vs d) (hk : Kept b w w') (hb : b < B) : AllC B w' vs d :=
  ⟨h.1, fun j r hj => by obtain ⟨u, h1, h2⟩ := h.2 j r hj; exact ⟨u, h1, h2.kept hk hb⟩⟩
theorem own_grown {w w' : World} {B e size n : Nat} {v : Value} {xs : List Value} {row : Option Nat} (h : w.ownsRow B e size v n xs) (hg : w.grownBy w' row) (hr : ∀ k, row = some k → v.ownBlock ≠ some k) : w'.ownsRow B e size v n xs := by
  refine ⟨h.1, ?_⟩
  rcases h.2 with h' | ⟨g, cap, cur, hv, hbg, hgh, r⟩
  · exact .inl h'
  · refine .inr ⟨g, cap, cur, hv, hbg, ?_, r⟩
    rw [hg.block g (Array.getElem?_eq_some_iff.1 hgh).1 (fun e => hr g e.symm (by rw [hv]; rfl))]
    exact hgh
theorem cells_at (w : World) (xs : List Value) (t : TypeId) (n : Nat) (hn : w.heap.size = n) : ∀ j u, xs[j]? = some u → (w.alloc (.cells xs.toArray t)).cell? ((⟨n, 0, none⟩ : Addr).add j) = some u := by
  subst hn
  exact cells_new w xs t
theorem head_not {u : List UInt8} {c : UInt8} (h : headIs u c = false) : ∀ t, u ≠ c :: t := by
  rintro t rfl
  simp [headIs] at h
set_option maxRecDepth 100000 in
set_option maxHeartbeats 4000000 in
theorem rname_any (s : List UInt8) (w : World) (hs : s.length ≤ 1099511627776) :
    Calls Tryz.prog 118 #[.string ⟨s.toArray⟩] w (NamePost w (nameB s)) := by
  have hbA := (Below.refl w.heap.size w).alloc (Nat.le_refl _) (.cells #[.string ⟨s.toArray⟩, .int .i64 0] 263)
  have hRA : DAt (w.alloc (.cells #[.string ⟨s.toArray⟩, .int .i64 0] 263)) w.heap.size s 0 := alloc_at _ _ _ rfl
  have hsA : (w.alloc (.cells #[.string ⟨s.toArray⟩, .int .i64 0] 263)).heap.size = w.heap.size + 1 := by simp
  by_cases h0 : s = []
  · subst h0
    clear hRA hsA
    go_enter Tryz.func118, Tryz.ntmps118
    go_wp2_with fail
    go_ret2
    exact ⟨⟨_, rfl, none_at _⟩, hbA⟩
  · have hne : s.isEmpty = false := by cases s <;> simp_all
    obtain ⟨ANS, hA⟩ : ∃ ANS, nameB s = ANS := ⟨_, rfl⟩
    rw [hA]
    rw [← refName_nameB s h0] at hA
    have HA := Lib.hid hA
    clear hA h0
    obtain ⟨i0, hi0, hz0, hz1, hz2⟩ := info_parts Tryz.infoAva
    obtain ⟨j0, hj0, hy0, hy1, hy2⟩ := info_parts Tryz.infoRdn
    go_enter Tryz.func118, Tryz.ntmps118
    go_wp2_with fail
    generalize w.alloc (.cells #[.string ⟨s.toArray⟩, .int .i64 0] 263) = wA at hbA hRA hsA ⊢
    have hfin : ∀ w', Kept w.heap.size wA w' → Below w.heap.size w w' := fun w' hk => hbA.trans (hk.below (Nat.le_refl _) (by omega))
    have HF := Lib.hid hfin
    clear hfin
    have hsz0 : w.heap.size + 1 ≤ wA.heap.size := by omega
    have hszA : wA.heap.size ≤ w.heap.size + 1 := by omega
    clear hsA
    go_loopw [5, 6] (fun s5 s6 wr => RNRel wA w.heap.size (w.heap.size + 1) s ANS s5 s6 wr) (fun _ _ wr => s.length - posOf wr w.heap.size)
    case atStart => exact ⟨0, s.length + 1, [], [], [], by omega, by simp, by simp, hRA, Kept.refl _ _, hsz0, World.ownsRow_nil _ _ _ _, World.ownsRow_nil _ _ _ _, ⟨rfl, fun j r hj => (by simp at hj)⟩, fun u hu => (by cases hu), fun u hu => (by cases hu), fun u hu j hj => (by cases hj), by simp, HA.out⟩
    case round =>
      clear HA hRA hbA
      obtain ⟨k, f, out, part, vs, hk, hpl, hol, h, hkp, hszr, hownP, hownO, hall, hoffO, hoffP, hoffX, hf, hans⟩ := hrel
      have hpos := h.pos
      obtain ⟨r, hr⟩ : ∃ r, s.drop k = r := ⟨_, rfl⟩
      rw [hr] at hf hans
      obtain ⟨f', rfl⟩ : ∃ f', f = f' + 1 := ⟨f - 1, by omega⟩
      rw [refName_step] at hans
      have kp := dpair_any w.heap.size s r wr ⟨k, hk, hr, h⟩ hs
      have hrl := congrArg List.length hr
      rw [List.length_drop] at hrl
      cases hp : refPair r with
      | none =>
        rw [hp] at kp hans
        have hans2 : Hid (ANS = none) := Lib.hid hans.symm
        clear hans hp hr hrl
        go_wp2_with (go_at_call 204; refine Calls.mono (show Calls _ _ _ _ _ from kp) ?_; rintro e w1 ⟨⟨x, y, rfl⟩, hk1⟩)
        go_ret2
        rw [hans2.out]
        exact ⟨⟨_, rfl, none_at _⟩, HF.out _ ((hkp.trans hk1).alloc _)⟩
      | some q =>
        obtain ⟨x, u⟩ := q
        have hul := refPair_len hp
        rw [hp] at kp hans
        simp only at hans
        have HN := Lib.hid hans
        clear hans hp hr
        go_wp2_with (first | (go_at_call 204; refine Calls.mono (show Calls _ _ _ _ _ from kp) ?_; rintro e w1 ⟨⟨rfl, hr1⟩, hk1⟩; have hownP1 := own_kept hownP hk1 (Nat.lt_succ_self _); have hownO1 := own_kept hownO hk1 (Nat.lt_succ_self _); have hall1 := hall.kept hk1 (Nat.lt_succ_self _); have hkp1 := hkp.trans hk1; have hsz1 : w.heap.size + 1 ≤ w1.heap.size := Nat.le_trans hszr hk1.2.2.2.1) | (at_builtin; refine wpList_append_own_at _ rfl (.tmp 21) (.tmp 23) 66 rfl (w.heap.size + 1) 146 i0 (.agg #[.string ⟨#[]⟩, .string ⟨#[]⟩]) 2 32 Tryz.underlying66 hi0 hz0 hz1 hz2 rfl (by decide) u6 part.length (aV part) rfl ((hownP1.alloc _).alloc _) ⟨w1.heap.size + 1, 0, none⟩ 1 1 [.string ⟨x.1.toArray⟩, .string ⟨x.2.toArray⟩] rfl rfl ?d1 ?d2 ?d3 ?d4 ?d5 ?_))
        case d1 => exact cells_at (w1.alloc _) [.string ⟨x.1.toArray⟩, .string ⟨x.2.toArray⟩] 146 _ (by simp)
        case d2 => intro u hu; simp at hu; rcases hu with rfl | rfl <;> rfl
        case d3 => unfold maxLen; omega
        case d4 => omega
        case d5 => simp; omega
        intro v6 w3 ho7 hg7 _ hat7
        have hb2 := ((Below.refl w1.heap.size w1).alloc (Nat.le_refl _) (.cells #[.string ⟨x.1.toArray⟩, .string ⟨x.2.toArray⟩] 146)).alloc (by simp) (.cells #[.string ⟨x.1.toArray⟩, .string ⟨x.2.toArray⟩] 146)
        obtain ⟨k1, hk1l, hdr1, h1⟩ := hr1
        have h3 : DAt w3 w.heap.size s k1 := (hg7.block w.heap.size (by simp; omega) (fun e => by have := (hownP1.lt _ e.symm).1; omega)).trans (h1.below hb2)
        have hkp3 : Kept w.heap.size wA w3 := ((hkp1.alloc _).alloc _).grown hg7 (fun j hj => by have := (hownP1.lt j hj).1; omega)
        have hsz3 : w.heap.size + 1 ≤ w3.heap.size := by have := hg7.size; simp at this; omega
        have hownO3 := own_grown (own_below hownO1 hb2) hg7 (fun j hj e => hoffX u5 (by simp) j hj e)
        have hall3 := (hall1.below hb2).grown hg7 (fun u hu j hj e => hoffP u hu j hj e)
        have hnew : ∀ g, v6.ownBlock = some g → u6.ownBlock = some g ∨ g = w1.heap.size + 2 := by
          intro g hg
          rcases hat7 with h' | h'
          · exact .inl (by rw [← h']; exact hg)
          · rw [h'] at hg; simp at hg; exact .inr (by omega)
        have hoffP3 : Off vs v6 := by
          intro u hu j hj e
          rcases hnew j hj with h' | h'
          · exact hoffP u hu j h' e
          · have := hall1.lt hu e; omega
        have hoffX3 : Off [u5] v6 := by
          intro u hu j hj e
          simp at hu
          subst hu
          rcases hnew j hj with h' | h'
          · exact hoffX u (by simp) j h' e
          · have := (hownO1.lt j e).2; omega
        have hownP3 : w3.ownsRow (w.heap.size + 1) 146 2 v6 (part ++ [x]).length (aV (part ++ [x])) := by
          rw [List.length_append, aV_append]
          exact ho7
        obtain ⟨P, hP⟩ : ∃ P, part ++ [x] = P := ⟨_, rfl⟩
        have hPl : P.length = part.length + 1 := by rw [← hP]; simp
        have hkk : k + 1 ≤ k1 := by
          have e1 := congrArg List.length hdr1
          rw [List.length_drop] at e1
          omega
        have HPl := Lib.hid hPl
        have hPl2 : P.length ≤ k1 := by omega
        have hNN := HN.out
        rw [hP] at hownP3 hNN
        have HNN := Lib.hid hNN
        clear hNN HN hP ho7 hg7 hat7 hnew hb2 h1 hkp1 hownP1 hownO1 hall1 hownP hownO hall hkp h hoffP hoffX kp hPl
        obtain ⟨a6, cap6, hv6⟩ : ∃ a6 cap6, v6 = .slice a6 P.length cap6 := by
          rcases hownP3.2 with ⟨hv, h0⟩ | ⟨g', cap, cur, hv, _⟩
          · exact ⟨none, 0, by rw [hv, h0]⟩
          · exact ⟨some ⟨g', 0, none⟩, cap, hv⟩
        subst hv6
        have ki := dis_any w.heap.size k1 s u 43 w3 h3 hk1l hdr1
        cases h43 : headIs u 43 with
        | true =>
          rw [h43] at ki
          obtain ⟨u', rfl⟩ := head_cons h43
          obtain ⟨hlt1, hdr2⟩ := drop_lt hdr1
          have hans2 : Hid (refName f' (s.drop (k1 + 1)) P out = ANS) := Lib.hid (by rw [hdr2]; exact HNN.out)
          have hff : (s.drop (k1 + 1)).length < f' := by rw [List.length_drop]; have := congrArg List.length hdr1; rw [List.length_drop] at this; omega
          have HFF := Lib.hid hff
          clear HNN h43 hdr1 hdr2 hff
          go_wp2_with (go_at_call 205; refine Calls.mono (show Calls _ _ _ _ _ from ki) ?_; rintro e w4 ⟨rfl, m, hw4⟩; have h4 : DAt w4 w.heap.size s k1 := (by rw [hw4]; exact h3); have hkp4 : Kept w.heap.size wA w4 := (by rw [hw4]; exact hkp3.trans (Kept.of_below (Below.drewN (Below.refl _ _) m))); have hownO4 : w4.ownsRow (w.heap.size + 1) 66 1 u5 out.length vs := (by rw [hw4]; exact hownO3); have hownP4 : w4.ownsRow (w.heap.size + 1) 146 2 (.slice a6 P.length cap6) P.length (aV P) := (by rw [hw4]; exact hownP3); have hall4 : AllC (w.heap.size + 1) w4 vs out := (by rw [hw4]; exact hall3); have hsz4 : w.heap.size + 1 ≤ w4.heap.size := (by rw [hw4]; exact hsz3); clear hw4; obtain ⟨q0, q1, q2⟩ := h4.cells)
          have hks := Kept.set w.heap.size w4 1 (.int .i64 ((k1 : Int) + 1))
          go_roundw
          case rel => exact ⟨k1 + 1, f', out, P, vs, hlt1, by omega, by omega, h4.set1, hkp4.trans hks, by simpa using hsz4, own_kept hownP4 hks (Nat.lt_succ_self _), own_kept hownO4 hks (Nat.lt_succ_self _), hall4.kept hks (Nat.lt_succ_self _), hoffO, hoffP3, hoffX3, HFF.out, hans2.out⟩
          case measure => rw [hpos, h4.set1.pos]; omega
        | false =>
          rw [h43] at ki
          have hn43 := Lib.hid (head_not h43)
          clear h43
          go_wp2_with (first | (go_at_call_of 205 (Value.int .u8 43); refine Calls.mono (show Calls _ _ _ _ _ from ki) ?_; rintro e w4 ⟨rfl, m, hw4⟩; have h4 : DAt w4 w.heap.size s k1 := (by rw [hw4]; exact h3); have hkp4 : Kept w.heap.size wA w4 := (by rw [hw4]; exact hkp3.trans (Kept.of_below (Below.drewN (Below.refl _ _) m))); have hownO4 : w4.ownsRow (w.heap.size + 1) 66 1 u5 out.length vs := (by rw [hw4]; exact hownO3); have hP4 : AvsC (w.heap.size + 1) w4 (.slice a6 P.length cap6) P := (by rw [hw4]; exact avsC_own hownP3); have hall4 : AllC (w.heap.size + 1) w4 vs out := (by rw [hw4]; exact hall3); have hsz4 : w.heap.size + 1 ≤ w4.heap.size := (by rw [hw4]; exact hsz3); clear hw4) | (at_builtin; refine wpList_append_own_at _ rfl (.tmp 34) (.tmp 36) 60 rfl (w.heap.size + 1) 66 j0 (.slice none 0 0) 1 24 Tryz.underlying60 hj0 hy0 hy1 hy2 rfl (by decide) u5 out.length vs rfl (hownO4.alloc _) ⟨w4.heap.size, 0, none⟩ 1 1 [.slice a6 P.length cap6] rfl rfl (cell_one_new _ _ _) ?d2 ?d3 ?d4 ?d5 ?_))
          case d2 => intro u hu; simp at hu; subst hu; rfl
          case d3 => unfold maxLen; omega
          case d4 => omega
          case d5 => simp; omega
          intro v5 w5 ho7 hg7 _ hat7
          have hb2 := (Below.refl w4.heap.size w4).alloc (Nat.le_refl _) (.cells #[.slice a6 P.length cap6] 66)
          have h5 : DAt w5 w.heap.size s k1 := (hg7.block w.heap.size (by simp; omega) (fun e => by have := (hownO4.lt _ e.symm).1; omega)).trans (h4.below hb2)
          have hkp5 : Kept w.heap.size wA w5 := (hkp4.alloc _).grown hg7 (fun j hj => by have := (hownO4.lt j hj).1; omega)
          have hsz5 : w.heap.size + 1 ≤ w5.heap.size := by have := hg7.size; simp at this; omega
          have hall5 := (hall4.below hb2).snoc (hP4.below hb2)
          have hoff6 : Off (vs ++ [.slice a6 P.length cap6]) u5 := by
            intro u hu j hj e
            rcases List.mem_append.1 hu with hu | hu
            · exact hoffO u hu j hj e
            · simp at hu
              subst hu
              exact hoffX3 u5 (by simp) j e hj
          have hall6 := hall5.grown hg7 (fun u hu j hj e => hoff6 u hu j hj e)
          have hoff7 : Off (vs ++ [.slice a6 P.length cap6]) v5 := by
            intro u hu j hj e
            rcases hat7 with h' | h'
            · exact hoff6 u hu j (h' ▸ hj) e
            · have hg := hall5.lt hu e
              rw [h'] at hj
              have e1 := Option.some.inj hj
              simp at hg e1
              omega
          have hown5 : w5.ownsRow (w.heap.size + 1) 66 1 v5 (out ++ [P]).length (vs ++ [.slice a6 P.length cap6]) := by
            rw [List.length_append]
            exact ho7
          clear ho7 hg7 hat7 hall5 hoff6 hb2 h4 hkp4 hownO4 hP4 hall4 hownO3 hownP3 hall3 h3 hkp3 hoffO hoffP3 hoffX3 ki
          obtain ⟨q0, q1, q2⟩ := h5.cells
          cases u with
          | nil =>
            have hkl : k1 = s.length := by have := congrArg List.length hdr1; simp at this; omega
            have hans2 : Hid (ANS = some (out ++ [P])) := Lib.hid HNN.out.symm
            have e1 : ((k1 : Int) == (s.length : Int)) = true := by rw [beq_iff_eq]; omega
            subst hkl
            clear HNN hdr1 e1
            have hfin := dnAt_own hown5 rfl (fun j r hj => by obtain ⟨u, h1, h2⟩ := hall6.2 j r hj; exact ⟨u, h1, h2.at⟩)
            have HFI := Lib.hid hfin
            clear hfin hall6 hoff7 hown5
            go_wp2_with fail
            go_quiet (fail)
            go_wp2_with fail
            go_ret2
            rw [hans2.out]
            exact ⟨⟨_, rfl, (HFI.out).below (Below.drewN (Below.refl _ _) _)⟩, HF.out _ (hkp5.trans (Kept.of_below (Below.drewN (Below.refl _ _) _)))⟩
          | cons c u' =>
            obtain ⟨hlt1, hdr2⟩ := drop_lt hdr1
            have e1 : ((k1 : Int) == (s.length : Int)) = false := by rw [beq_eq_false_iff_ne]; omega
            go_wp2_with fail
            go_quiet (fail)
            have h6 : DAt (w5.drewN nq) w.heap.size s k1 := h5
            have hkp6 : Kept w.heap.size wA (w5.drewN nq) := hkp5.trans (Kept.of_below (Below.drewN (Below.refl _ _) nq))
            have hsz6 : w.heap.size + 1 ≤ (w5.drewN nq).heap.size := hsz5
            have hown6 : (w5.drewN nq).ownsRow (w.heap.size + 1) 66 1 v5 (out ++ [P]).length (vs ++ [.slice a6 P.length cap6]) := hown5
            have hall7 : AllC (w.heap.size + 1) (w5.drewN nq) (vs ++ [.slice a6 P.length cap6]) (out ++ [P]) := hall6
            clear q0 q1 q2 h5 hkp5 hsz5 hown5 hall6
            generalize w5.drewN nq = w6 at h6 hkp6 hsz6 hown6 hall7 ⊢
            have ki := dis_any w.heap.size k1 s (c :: u') 44 w6 h6 hk1l hdr1
            rw [show headIs (c :: u') 44 = (c == 44) from rfl] at ki
            by_cases hc : c = 44
            · subst hc
              have hans2 : Hid (refName f' (s.drop (k1 + 1)) [] (out ++ [P]) = ANS) := Lib.hid (by rw [hdr2]; exact HNN.out)
              have hff : (s.drop (k1 + 1)).length < f' := by rw [List.length_drop]; have := congrArg List.length hdr1; rw [List.length_drop] at this; omega
              have HFF := Lib.hid hff
              clear HNN hdr1 hdr2 hff e1
              rw [show ((44 : UInt8) == 44) = true from rfl] at ki
              go_wp2_with (go_at_call 205; refine Calls.mono (show Calls _ _ _ _ _ from ki) ?_; rintro e w7 ⟨rfl, m, hw7⟩; have h7 : DAt w7 w.heap.size s k1 := (by rw [hw7]; exact h6); have hkp7 : Kept w.heap.size wA w7 := (by rw [hw7]; exact hkp6.trans (Kept.of_below (Below.drewN (Below.refl _ _) m))); have hown7 : w7.ownsRow (w.heap.size + 1) 66 1 v5 (out ++ [P]).length (vs ++ [.slice a6 P.length cap6]) := (by rw [hw7]; exact hown6); have hall8 : AllC (w.heap.size + 1) w7 (vs ++ [.slice a6 P.length cap6]) (out ++ [P]) := (by rw [hw7]; exact hall7); have hsz7 : w.heap.size + 1 ≤ w7.heap.size := (by rw [hw7]; exact hsz6); clear hw7; obtain ⟨q0, q1, q2⟩ := h7.cells)
              have hks := Kept.set w.heap.size w7 1 (.int .i64 ((k1 : Int) + 1))
              go_roundw
              case rel => exact ⟨k1 + 1, f', out ++ [P], [], vs ++ [.slice a6 P.length cap6], hlt1, by simp, by simp; omega, h7.set1, hkp7.trans hks, by simpa using hsz7, World.ownsRow_nil _ _ _ _, own_kept hown7 hks (Nat.lt_succ_self _), hall8.kept hks (Nat.lt_succ_self _), hoff7, fun u hu j hj => (by cases hj), fun u hu j hj => (by cases hj), HFF.out, hans2.out⟩
              case measure => rw [hpos, h7.set1.pos]; omega
            · have hans2 : Hid (ANS = none) := Lib.hid (by
                rw [← HNN.out]
                split
                · rename_i heq; exact absurd heq (hn43.out _)
                · rename_i heq; cases heq
                · rename_i heq; cases heq; exact absurd rfl hc
                · rfl)
              rw [show (c == 44) = false by simpa using hc] at ki
              clear HNN hdr1 hdr2 e1
              go_wp2_with (go_at_call 205; refine Calls.mono (show Calls _ _ _ _ _ from ki) ?_; rintro e w7 ⟨rfl, m, hw7⟩; have hkp7 : Kept w.heap.size wA w7 := (by rw [hw7]; exact hkp6.trans (Kept.of_below (Below.drewN (Below.refl _ _) m))); clear hw7)
              go_ret2
              rw [hans2.out]
              exact ⟨⟨_, rfl, none_at _⟩, HF.out _ hkp7⟩
end Go.Proofs.YtegigcneimjimaaGreatDoor
