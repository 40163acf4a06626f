/- chancerybook: what grows. -/
import Derived.Test.YtegigcneimjimaaGreatDoorBdF
namespace Go.Proofs.YtegigcneimjimaaGreatDoor
open Go.RowKit Go.Lib

/-- A value that reads in the row of a longer one. -/
theorem own_prefix {w w' : World} {B e size m n : Nat} {v l : Value} {ys xs : List Value} (hv : w.ownsRow B e size v m ys) (hl : w.ownsRow B e size l n xs) (hb : l.ownBlock = v.ownBlock) (hp : ys = xs.take (m * size)) (hmn : m ≤ n) (hl' : w'.ownsRow B e size l n xs) (hsz : 0 < size) : w'.ownsRow B e size v m ys := by
  refine ⟨hv.1, ?_⟩
  rcases hv.2 with hz | ⟨g, cap, cur, rfl, hB, hg, hmc, hcm, hcs, ht⟩
  · exact .inl hz
  · right
    rcases id hl.2 with ⟨rfl, _⟩ | ⟨g2, cap2, cur2, rfl, _, hg2, _, _, hcs2, _⟩
    · cases hb
    · cases hb
      rw [hg] at hg2
      cases hg2
      have hcc : cap = cap2 := Nat.eq_of_mul_eq_mul_right hsz (hcs.symm.trans hcs2)
      subst hcc
      rcases id hl'.2 with ⟨h0, _⟩ | ⟨g3, cap3, cur3, h3, hB3, hg3, _, _, hcs3, ht3⟩
      · cases h0
      · cases h3
        refine ⟨_, _, cur3, rfl, hB3, hg3, hmc, hcm, hcs3, ?_⟩
        rw [hp, ← ht3, List.take_take, Nat.min_eq_left (Nat.mul_le_mul_right _ hmn)]
/-- A step of growing: the list k, in the row of the value that came, or in a new one. -/
theorem grow_step {wo w4 w7 : World} {B e size m n : Nat} {vk l v' : Value} {ys xs : List Value} (hkg : KG (fun b => vk.ownBlock = some b) wo w4) (hv : w4.ownsRow B e size vk m ys) (hl : w4.ownsRow B e size l n xs) (hlb : l.ownBlock = vk.ownBlock ∨ ∀ b, l.ownBlock = some b → wo.heap.size ≤ b)
    (hvo : ∀ b, vk.ownBlock = some b → b < wo.heap.size) (hp : ys = xs.take (m * size)) (hmn : m ≤ n) (hsz : 0 < size) (hg : w4.grownBy w7 l.ownBlock) (hat : v'.ownBlock = l.ownBlock ∨ v'.ownBlock = some w4.heap.size) (hl7 : w7.ownsRow B e size l n xs) :
    KG (fun b => vk.ownBlock = some b) wo w7 ∧ w7.ownsRow B e size vk m ys ∧ (v'.ownBlock = vk.ownBlock ∨ ∀ b, v'.ownBlock = some b → wo.heap.size ≤ b) := by
  refine ⟨hkg.grown hg (fun k hk => ?_), ?_, ?_⟩
  · rcases hlb with h | h
    · exact .inl (by show vk.ownBlock = some k; rw [← h]; exact hk)
    · exact .inr (h k hk)
  · rcases hlb with h | h
    · exact own_prefix hv hl h hp hmn hl7 hsz
    · refine hv.kept hg ?_
      cases hk : vk.ownBlock with
      | none => exact .inl rfl
      | some b => exact .inr (fun e => by have := h b e.symm; have := hvo b hk; omega)
  · rcases hat with h | h
    · rw [h]; exact hlb
    · right
      intro b hb
      rw [h] at hb
      cases hb
      exact hkg.size
abbrev mrk (i m : Nat) : List Value := aV (prs (mkN i 0 m))
theorem mrk_length (i m : Nat) : (mrk i m).length = m * 2 := by rw [mrk, aV_length, prs_length, mkN_length]
theorem mrk_add (i n m : Nat) : mrk i n ++ aV (prs (mkN i n m)) = mrk i (n + m) := by rw [mrk, mrk, mkN_add, prs_append, aV_append]
theorem mrk_take (i m n : Nat) (h : m ≤ n) : mrk i m = (mrk i n).take (m * 2) := by
  obtain ⟨r, rfl⟩ := Nat.le.dest h
  rw [← mrk_add, List.take_left' (mrk_length i m)]
def GrA (w : World) (B : Nat) (vs : List Value) (ns : List Nat) (k : Nat) (o : Value) (wr : World) : Prop :=
  ∃ gs, KG (Blks vs) w wr ∧ wr.ownsRow w.heap.size 65 1 o k gs ∧ ∀ (i m : Nat), ns[i]? = some m → ∃ v, vs[i]? = some v ∧ wr.ownsRow B 146 2 v m (mrk i m) ∧
    (i < k → ∃ g, gs[i]? = some g ∧ wr.ownsRow B 146 2 g (m + 72) (mrk i (m + 72)) ∧ ∀ b, g.ownBlock = some b → v.ownBlock = some b ∨ w.heap.size ≤ b)
theorem own_far {w w' : World} {B B' e e' size size' n n' : Nat} {l o : Value} {xs ys : List Value} (hl : w.ownsRow B e size l n xs) (ho : w.ownsRow B' e' size' o n' ys) (he : e ≠ e') (hg : w.grownBy w' l.ownBlock) : w'.ownsRow B' e' size' o n' ys := by
  refine ho.kept hg ?_
  cases hk : o.ownBlock with
  | none => exact .inl rfl
  | some b => exact .inr (fun h => he ((own_ty hl h.symm).eq (own_ty ho hk)))
theorem grow_next {w wo w9 : World} {B k m : Nat} {vs gs : List Value} {ns : List Nat} {o o' vk v' : Value} (hs : Sep vs) (hlt : ∀ k, Blks vs k → k < w.heap.size) (hmk : ns[k]? = some m) (hvk : vs[k]? = some vk) (hkw : KG (Blks vs) w wo)
    (hout : wo.ownsRow w.heap.size 65 1 o k gs) (hrow : ∀ (i m : Nat), ns[i]? = some m → ∃ v, vs[i]? = some v ∧ wo.ownsRow B 146 2 v m (mrk i m) ∧
      (i < k → ∃ g, gs[i]? = some g ∧ wo.ownsRow B 146 2 g (m + 72) (mrk i (m + 72)) ∧ ∀ b, g.ownBlock = some b → v.ownBlock = some b ∨ w.heap.size ≤ b))
    (hK : KG (fun b => vk.ownBlock = some b ∨ o.ownBlock = some b) wo w9) (hvk9 : w9.ownsRow B 146 2 vk m (mrk k m)) (hg9 : w9.ownsRow B 146 2 v' (m + 72) (mrk k (m + 72))) (hfr : v'.ownBlock = vk.ownBlock ∨ ∀ b, v'.ownBlock = some b → wo.heap.size ≤ b)
    (hout9 : w9.ownsRow w.heap.size 65 1 o' (k + 1) (gs ++ [v'])) : GrA w B vs ns (k + 1) o' w9 := by
  have hgl : gs.length = k := by have := hout.1; omega
  have hno : ∀ {v : Value} {n : Nat} {xs : List Value}, wo.ownsRow B 146 2 v n xs → ∀ b, v.ownBlock = some b → o.ownBlock ≠ some b := fun h b hb ho => absurd ((own_ty h hb).eq (own_ty hout ho)) (by decide)
  refine ⟨_, ?_, hout9, fun i m' hi => ?_⟩
  · have h1 : KG (fun b => Blks vs b ∨ w.heap.size ≤ b) w w9 := (hkw.mono (fun _ _ h => .inl h)).trans (hK.mono (fun b _ h => by
      rcases h with h | h
      · exact .inl ⟨vk, List.mem_of_getElem? hvk, h⟩
      · exact .inr (hout.lt b h).1))
    exact h1.mono (fun b hb h => by rcases h with h | h; exact h; omega)
  · obtain ⟨v, h1, h2, h3⟩ := hrow i m' hi
    refine ⟨v, h1, ?_, fun hik => ?_⟩
    · by_cases hik : i = k
      · subst hik
        rw [hmk] at hi
        cases hi
        rw [hvk] at h1
        cases h1
        exact hvk9
      · refine hK.own h2 (fun b hb h => ?_)
        rcases h with h | h
        · exact hs i k v vk b hik h1 hvk hb h
        · exact hno h2 b hb h
    · by_cases hik2 : i = k
      · subst hik2
        rw [hmk] at hi
        cases hi
        rw [hvk] at h1
        cases h1
        refine ⟨v', by rw [List.getElem?_append_right (by omega), hgl, Nat.sub_self]; rfl, hg9, fun b hb => ?_⟩
        rcases hfr with h | h
        · exact .inl (by rw [← h]; exact hb)
        · exact .inr (Nat.le_trans hkw.size (h b hb))
      · obtain ⟨g, e1, e2, e3⟩ := h3 (by omega)
        refine ⟨g, by rw [List.getElem?_append_left (by omega)]; exact e1, hK.own e2 (fun b hb h => ?_), e3⟩
        rcases h with h | h
        · rcases e3 b hb with e | e
          · exact hs i k v vk b hik2 h1 hvk e h
          · have := hlt b ⟨vk, List.mem_of_getElem? hvk, h⟩
            omega
        · exact hno e2 b hb h
def GrI (wo : World) (B : Nat) (vk : Value) (k m : Nat) (l q : Value) (wr : World) : Prop :=
  ∃ t : Nat, t ≤ 12 ∧ q = .int .i64 (t : Int) ∧ KG (fun b => vk.ownBlock = some b) wo wr ∧ wr.ownsRow B 146 2 l (m + t) (mrk k (m + t)) ∧ wr.ownsRow B 146 2 vk m (mrk k m) ∧ (l.ownBlock = vk.ownBlock ∨ ∀ b, l.ownBlock = some b → wo.heap.size ≤ b)
set_option maxRecDepth 100000 in
set_option maxHeartbeats 4000000 in
theorem growAvas_any (p : Nat) (a b c d : Value) (B n : Nat) (vs : List Value) (ns : List Nat) (w : World) (h : BkAt w p a b c d) (ha : w.ownsRow B 65 1 a n vs) (hB : B ≤ w.heap.size)
    (hn : ns.length = n) (hn2 : n ≤ 250) (hl : ∀ m ∈ ns, m ≤ 900000) (hv : ∀ (i m : Nat), ns[i]? = some m → ∃ v, vs[i]? = some v ∧ w.ownsRow B 146 2 v m (mrk i m)) (hs : Sep vs) :
    Calls Tryz.prog 86 #[.pointer (some ⟨p, 0, none⟩)] w fun e w' => (∃ o, e = .returned o ∧ GrA w B vs ns n o w') := by
  obtain ⟨i0, hi0, hz0, hz1, hz2⟩ := info_parts Tryz.infoAva
  obtain ⟨j0, hj0, hy0, hy1, hy2⟩ := info_parts (show (Tryz.prog.info? 65).map (fun i => (i.zero, i.size, i.bytes)) = some (some (.slice none 0 0), 1, 24) by kernel_rfl)
  have hvl : vs.length = n := by have := ha.1; omega
  have hty : ∀ k, Blks vs k → Ty w k 146 := by
    rintro k ⟨v, hm, hk⟩
    obtain ⟨i, hi⟩ := List.getElem?_of_mem hm
    have hil := (List.getElem?_eq_some_iff.1 hi).1
    obtain ⟨v', h1, h2⟩ := hv i ns[i] (List.getElem?_eq_getElem (by omega))
    rw [hi] at h1
    cases h1
    exact own_ty h2 hk
  have hlt : ∀ k, Blks vs k → k < w.heap.size := by
    intro k hk
    obtain ⟨_, _, h'⟩ := hty k hk
    exact (Array.getElem?_eq_some_iff.1 h').1
  have hnp : ¬ Blks vs p := fun hk => absurd ((hty p hk).eq h.ty) (by decide)
  have hna : ∀ k, a.ownBlock = some k → ¬ Blks vs k := fun k hk hb => absurd ((hty k hb).eq (own_ty ha hk)) (by decide)
  have HV := Lib.hid hv
  have HL := Lib.hid hl
  have HN := Lib.hid hn
  have HB := Lib.hid hvl
  clear hv hl hty hn hvl
  go_enter Tryz.func86, Tryz.ntmps86
  go_wp2_with fail
  go_loopw [3, 4] (fun o q wr => ∃ k : Nat, k ≤ n ∧ q = .int .i64 (k : Int) ∧ GrA w B vs ns k o wr) (fun _ q _ => n - (RowKit.intOf q).toNat)
  case atStart => exact ⟨0, by omega, rfl, [], KG.refl _ _, World.ownsRow_nil _ _ _ _, fun i m hi => by obtain ⟨v, h1, h2⟩ := HV.out i m hi; exact ⟨v, h1, h2, fun h => by omega⟩⟩
  case round =>
    obtain ⟨k, hk, rfl, hgr⟩ := hrel
    have HG := Lib.hid hgr
    obtain ⟨gs, hkg, hout, hrow⟩ := hgr
    have ha1 := hkg.own ha hna
    have hp1 := h.kg hkg hnp
    obtain ⟨q0, _, _, _⟩ := hp1.cells
    by_cases hkn : k < n
    · obtain ⟨m, hmk⟩ : ∃ m, ns[k]? = some m := ⟨ns[k]'(by have := HN.out; omega), List.getElem?_eq_getElem _⟩
      have hml := HL.out m (List.mem_of_getElem? hmk)
      obtain ⟨vk, hvk, hov, _⟩ := hrow k m hmk
      obtain ⟨ga, ca, hae, hca⟩ := own_at ha1 hvk
      have hvko : ∀ b, vk.ownBlock = some b → b < wr.heap.size := fun b hb => (hov.lt b hb).2
      have HVB := Lib.hid hvko
      obtain ⟨av, cv, hve⟩ : ∃ av cv, vk = .slice av m cv := by
        rcases hov.2 with ⟨h1, h2⟩ | ⟨g1, c1, _, h1, _⟩
        · exact ⟨none, 0, by rw [h1, h2]⟩
        · exact ⟨_, c1, h1⟩
      have g1 : decide ((k : Int) < (n : Int)) = true := decide_eq_true (by omega)
      have g2 : (k : Int) < (n : Int) := by omega
      have HVE := Lib.hid hve
      subst hae hve
      have HOV := Lib.hid hov
      have hwz := hkg.size
      clear hkg hout hrow hvko HVE
      go_wp2_with fail
      obtain ⟨wo, hwo⟩ : ∃ wo : World, wo = wr := ⟨_, rfl⟩
      subst hwo
      clear q0 hca
      go_loopw [5, 6] (fun l q wr => GrI wo B (.slice av m cv) k m l q wr) (fun _ q _ => 12 - (RowKit.intOf q).toNat)
      case atStart => exact ⟨0, by omega, rfl, KG.refl _ _, hov, hov, .inl rfl⟩
      case round =>
        clear hov
        obtain ⟨t, ht, rfl, hkg, hol, hov, hlb⟩ := hrel
        obtain ⟨N, hN⟩ : ∃ N, m + t = N := ⟨_, rfl⟩
        rw [hN] at hol
        obtain ⟨al, cl, hle⟩ : ∃ al cl, u5 = .slice al N cl := by
          rcases hol.2 with ⟨h1, h2⟩ | ⟨g1, c1, _, h1, _⟩
          · exact ⟨none, 0, by rw [h1, h2]⟩
          · exact ⟨_, c1, h1⟩
        subst hle
        have hNl : N ≤ 900012 := by omega
        have hNm : m ≤ N := by omega
        have HNE := Lib.hid hN
        clear hN
        by_cases htt : t < 12
        · have i3 : decide ((t : Int) < 12) = true := decide_eq_true (by omega)
          have km := markAvas_any k N 1 wr (by omega) (by omega)
          have hszo := hkg.size
          go_wp2_with (first | (go_at_call 190; refine Calls.mono (show Calls _ _ _ _ _ from km) ?_; rintro e w4 ⟨⟨v4, rfl, hv4⟩, hb4⟩; obtain ⟨g4, c4, he4, _, _⟩ := hv4.form (by omega); subst he4; have hol4 := ownBelow hol hb4; have hov4 := ownBelow hov hb4; have hkg4 := hkg.ext hb4; have hsz4 := hb4.size) | (at_builtin; refine wpList_append_both rfl (.tmp 27) (.tmp 31) 65 rfl B 146 i0 (.agg #[.string ⟨#[]⟩, .string ⟨#[]⟩]) 2 32 Tryz.underlying65 hi0 hz0 hz1 hz2 rfl (by decide) (.slice al N cl) N (mrk k N) rfl hol4 ⟨g4, 0, none⟩ 1 c4 (aV (prs (mkN k N 1))) rfl (by rw [aV_length, prs_length, mkN_length]) (hv4.cells rfl) (aV_one _) ?d3 ?d4 ?d5 ?_))
          case d3 => unfold maxLen; omega
          case d4 => omega
          case d5 => omega
          intro v' w7 ho7 hg7 hat7 hold7
          rw [mrk_add] at ho7
          obtain ⟨e1, e2, e3⟩ := grow_step hkg4 hov4 hol4 hlb HVB.out (mrk_take k m N hNm) hNm (by omega) hg7 hat7 hold7
          go_wp2_with fail
          go_roundw
          case rel => exact ⟨t + 1, by omega, by go_num, e1, by rw [← Nat.add_assoc, HNE.out]; exact ho7, e2, e3⟩
          case measure => simp [RowKit.intOf]; omega
        · obtain rfl : t = 12 := by omega
          have i3 : decide ((12 : Int) < 12) = false := by decide
          have km := markAvas_any k N 60 wr (by omega) (by omega)
          have hszo := hkg.size
          obtain ⟨gs, hkw, hout, hrow⟩ := HG.out
          have hgl : gs.length = k := by have := hout.1; omega
          have HGL := Lib.hid hgl
          have HRO := Lib.hid hrow
          have HKW := Lib.hid hkw
          have HOU := Lib.hid hout
          have hwo := hkw.size
          have houtT : wr.ownsRow w.heap.size 65 1 u3 k gs := hkg.own hout (fun b hb hb2 => absurd ((own_ty hout hb).eq (own_ty HOV.out hb2)) (by decide))
          clear hrow hkw hout hgl
          go_wp2_with (first | (go_at_call 190; refine Calls.mono (show Calls _ _ _ _ _ from km) ?_; rintro e w4 ⟨⟨v4, rfl, hv4⟩, hb4⟩; obtain ⟨g4, c4, he4, _, _⟩ := hv4.form (by omega); subst he4; have hol4 := ownBelow hol hb4; have hov4 := ownBelow hov hb4; have hkg4 := hkg.ext hb4; have hsz4 := hb4.size; have hout4 := ownBelow houtT hb4) | (at_builtin; refine wpList_append_both rfl (.tmp 34) (.tmp 38) 65 rfl B 146 i0 (.agg #[.string ⟨#[]⟩, .string ⟨#[]⟩]) 2 32 Tryz.underlying65 hi0 hz0 hz1 hz2 rfl (by decide) (.slice al N cl) N (mrk k N) rfl hol4 ⟨g4, 0, none⟩ 60 c4 (aV (prs (mkN k N 60))) rfl (by rw [aV_length, prs_length, mkN_length]) (hv4.cells rfl) (aV_one _) ?f3 ?f4 ?f5 ?_))
          case f3 => unfold maxLen; omega
          case f4 => omega
          case f5 => omega
          intro v' w7 ho7 hg7 hat7 hold7
          rw [mrk_add] at ho7
          obtain ⟨e1, e2, e3⟩ := grow_step hkg4 hov4 hol4 hlb HVB.out (mrk_take k m N hNm) hNm (by omega) hg7 hat7 hold7
          have hout7 := own_far hol4 hout4 (by decide) hg7
          obtain ⟨a7, c7, he7⟩ : ∃ a7 c7, v' = .slice a7 (N + 60) c7 := by
            rcases ho7.2 with ⟨h1, h2⟩ | ⟨g1, c1, _, h1, _⟩
            · omega
            · exact ⟨_, c1, h1⟩
          subst he7
          have hsz7 := hg7.size
          clear km hold7 hol4 hov4 hkg4 hout4 hat7 hg7
          go_wp2_with (at_builtin; refine wpList_append_own_at _ rfl (.tmp 33) (.tmp 40) 32 rfl w.heap.size 65 j0 (.slice none 0 0) 1 24 Tryz.underlying32 hj0 hy0 hy1 hy2 rfl (by decide) u3 k gs rfl (hout7.alloc _) ⟨w7.heap.size, 0, none⟩ 1 1 [.slice a7 (N + 60) c7] rfl rfl (cell_one_new _ _ _) ?h2 ?h3 ?h4 ?h5 ?_)
          case h2 => intro u hu; simp at hu; subst hu; rfl
          case h3 => unfold maxLen; omega
          case h4 => omega
          case h5 => simp; omega
          intro o' w9 ho9 hg9 _ hat9
          have hK9 : KG (fun b => (Value.slice av m cv).ownBlock = some b ∨ u3.ownBlock = some b) wo w9 := ((e1.mono (fun _ _ h => .inl h)).alloc _).grown hg9 (fun b hb => .inl (.inr hb))
          have hb8 := (Below.refl w7.heap.size w7).alloc (Nat.le_refl _) (.cells #[.slice a7 (N + 60) c7] 65)
          have hvk9 := own_far (hout7.alloc _) (ownBelow e2 hb8) (by decide) hg9
          have hg99 := own_far (hout7.alloc _) (ownBelow ho7 hb8) (by decide) hg9
          rw [show N + 60 = m + 72 by have := HNE.out; omega] at hg99 e3 ho9
          have hnext := grow_next hs hlt hmk hvk HKW.out HOU.out HRO.out hK9 hvk9 hg99 e3 ho9
          clear hK9 hb8 hvk9 hg99 ho9 hg9 hat9 e1 e2 e3 ho7 hout7
          go_wp2_with fail
          exact ⟨⟨k + 1, by omega, by go_num, hnext⟩, by simp [RowKit.intOf]; omega⟩
    · obtain rfl : k = n := by omega
      have i3 : decide ((k : Int) < (k : Int)) = false := decide_eq_false (by omega)
      clear hrow
      rcases id ha1.2 with ⟨hae, hz⟩ | ⟨ga, ca, cur, hae, _⟩
      all_goals
        subst hae
        go_wp2_with fail
        go_ret
        exact ⟨_, rfl, HG.out⟩
end Go.Proofs.YtegigcneimjimaaGreatDoor
namespace Go.Proofs.YtegigcneimjimaaGreatDoor
open Go.RowKit Go.Lib

theorem MarkR.below {W i n : Nat} {w w' : World} {ms : List Value} (h : MarkR W w i ms n) (hb : Below w.heap.size w w') : MarkR W w' i ms n :=
  ⟨h.1, fun j hj => by obtain ⟨u, h1, h2⟩ := h.2 j hj; exact ⟨u, h1, ownBelow h2 hb⟩⟩
theorem MarkR.far {W i n B N : Nat} {w w' : World} {l : Value} {ms xs : List Value} {e : TypeId} {size : Nat} (h : MarkR W w i ms n) (hl : w.ownsRow B e size l N xs) (he : e ≠ 146) (hg : w.grownBy w' l.ownBlock) : MarkR W w' i ms n :=
  ⟨h.1, fun j hj => by obtain ⟨u, h1, h2⟩ := h.2 j hj; exact ⟨u, h1, own_far hl h2 he hg⟩⟩
theorem MarkR.kgT {G : Nat → Prop} {W i n : Nat} {w w' : World} {ms : List Value} (h : MarkR W w i ms n) (hk : KG G w w') (hG : ∀ b, G b → ¬ Ty w b 146) : MarkR W w' i ms n :=
  ⟨h.1, fun j hj => by obtain ⟨u, h1, h2⟩ := h.2 j hj; exact ⟨u, h1, hk.own h2 (fun b hb hg => hG b hg (own_ty h2 hb))⟩⟩
theorem MarkR.take {W i n m : Nat} {w : World} {ms : List Value} (h : MarkR W w i ms n) (hm : m ≤ n) : MarkR W w i (ms.take m) m :=
  ⟨by rw [List.length_take, h.1]; omega, fun j hj => by
    obtain ⟨u, h1, h2⟩ := h.2 j (by omega)
    exact ⟨u, by rw [List.getElem?_take, if_pos hj]; exact h1, h2⟩⟩
theorem MarkR.app {W i n m : Nat} {w : World} {ms ns : List Value} (h : MarkR W w i ms n) (hl : ns.length = m) (hn : ∀ (j : Nat) (r : List Av), (rds (mkN i n m))[j]? = some r → ∃ u, ns[j]? = some u ∧ w.ownsRow W 146 2 u r.length (aV r)) : MarkR W w i (ms ++ ns) (n + m) := by
  refine ⟨by rw [List.length_append, h.1, hl], fun j hj => ?_⟩
  rcases Nat.lt_or_ge j n with h1 | h1
  · obtain ⟨u, h2, h3⟩ := h.2 j h1
    exact ⟨u, by rw [List.getElem?_append_left (by rw [h.1]; exact h1)]; exact h2, h3⟩
  · obtain ⟨u, h2, h3⟩ := hn (j - n) [(nameL i j, [])] (by
      unfold rds
      rw [List.getElem?_map, mkN_get i n m (j - n) (by omega), show n + (j - n) = j by omega]
      rfl)
    exact ⟨u, by rw [List.getElem?_append_right (by rw [h.1]; exact h1), h.1]; exact h2, h3⟩
theorem sl_of {w : World} {B e size n : Nat} {v : Value} {xs : List Value} (h : w.ownsRow B e size v n xs) : ∃ a c, v = .slice a n c := by
  rcases h.2 with ⟨h1, h2⟩ | ⟨g1, c1, _, h1, _⟩
  · exact ⟨none, 0, by rw [h1, h2]⟩
  · exact ⟨_, c1, h1⟩
theorem own_one {w : World} {W : Nat} {l : List Value} {d : List (List Av)} (hl : l.length = d.length) (h : ∀ (j : Nat) (r : List Av), d[j]? = some r → ∃ u, l[j]? = some u ∧ w.ownsRow W 146 2 u r.length (aV r)) : ∀ u ∈ l, u.oneCell' = true := by
  intro u hu
  obtain ⟨j, hj⟩ := List.getElem?_of_mem hu
  have hjl := (List.getElem?_eq_some_iff.1 hj).1
  obtain ⟨u', h1, h2⟩ := h j d[j] (List.getElem?_eq_getElem (by omega))
  rw [hj] at h1
  cases h1
  obtain ⟨a, c, rfl⟩ := sl_of h2
  rfl
/-- A list of marks of parts. -/
def MR (W B : Nat) (w : World) (i : Nat) (v : Value) (m : Nat) : Prop := ∃ ms, w.ownsRow B 66 1 v m ms ∧ MarkR W w i ms m
def GrR (W : Nat) (w : World) (B : Nat) (vs : List Value) (ns : List Nat) (k : Nat) (o : Value) (wr : World) : Prop :=
  ∃ gs, KG (Blks vs) w wr ∧ wr.ownsRow w.heap.size 59 1 o k gs ∧ ∀ (i m : Nat), ns[i]? = some m → ∃ v, vs[i]? = some v ∧ MR W B wr i v m ∧
    (i < k → ∃ g, gs[i]? = some g ∧ MR W B wr i g (m + 72) ∧ ∀ b, g.ownBlock = some b → v.ownBlock = some b ∨ w.heap.size ≤ b)
theorem grow_nextR {W : Nat} {w wo w9 : World} {B k m : Nat} {vs gs : List Value} {ns : List Nat} {o o' vk v' : Value} (hs : Sep vs) (hlt : ∀ k, Blks vs k → k < w.heap.size) (hmk : ns[k]? = some m) (hvk : vs[k]? = some vk) (hkw : KG (Blks vs) w wo)
    (hout : wo.ownsRow w.heap.size 59 1 o k gs) (hrow : ∀ (i m : Nat), ns[i]? = some m → ∃ v, vs[i]? = some v ∧ MR W B wo i v m ∧
      (i < k → ∃ g, gs[i]? = some g ∧ MR W B wo i g (m + 72) ∧ ∀ b, g.ownBlock = some b → v.ownBlock = some b ∨ w.heap.size ≤ b))
    (hK : KG (fun b => vk.ownBlock = some b ∨ o.ownBlock = some b) wo w9) (hvk9 : MR W B w9 k vk m) (hg9 : MR W B w9 k v' (m + 72)) (hfr : v'.ownBlock = vk.ownBlock ∨ ∀ b, v'.ownBlock = some b → wo.heap.size ≤ b)
    (hout9 : w9.ownsRow w.heap.size 59 1 o' (k + 1) (gs ++ [v'])) : GrR W w B vs ns (k + 1) o' w9 := by
  have hgl : gs.length = k := by have := hout.1; omega
  have hno : ∀ {v : Value} {n : Nat} {xs : List Value}, wo.ownsRow B 66 1 v n xs → ∀ b, v.ownBlock = some b → o.ownBlock ≠ some b := fun h b hb ho => absurd ((own_ty h hb).eq (own_ty hout ho)) (by decide)
  have hGT : ∀ b, (vk.ownBlock = some b ∨ o.ownBlock = some b) → ¬ Ty wo b 146 := by
    intro b hb ht
    rcases hb with hb | hb
    · obtain ⟨v, h1, ⟨_, h2, _⟩, _⟩ := hrow k m hmk
      rw [hvk] at h1
      cases h1
      exact absurd ((own_ty h2 hb).eq ht) (by decide)
    · exact absurd ((own_ty hout hb).eq ht) (by decide)
  refine ⟨_, ?_, hout9, fun i m' hi => ?_⟩
  · have h1 : KG (fun b => Blks vs b ∨ w.heap.size ≤ b) w w9 := (hkw.mono (fun _ _ h => .inl h)).trans (hK.mono (fun b _ h => by
      rcases h with h | h
      · exact .inl ⟨vk, List.mem_of_getElem? hvk, h⟩
      · exact .inr (hout.lt b h).1))
    exact h1.mono (fun b hb h => by rcases h with h | h; exact h; omega)
  · obtain ⟨v, h1, ⟨ms, h2, h2m⟩, h3⟩ := hrow i m' hi
    refine ⟨v, h1, ?_, fun hik => ?_⟩
    · by_cases hik : i = k
      · subst hik
        rw [hmk] at hi
        cases hi
        rw [hvk] at h1
        cases h1
        exact hvk9
      · refine ⟨ms, hK.own h2 (fun b hb h => ?_), h2m.kgT hK hGT⟩
        rcases h with h | h
        · exact hs i k v vk b hik h1 hvk hb h
        · exact hno h2 b hb h
    · by_cases hik2 : i = k
      · subst hik2
        rw [hmk] at hi
        cases hi
        rw [hvk] at h1
        cases h1
        refine ⟨v', by rw [List.getElem?_append_right (by omega), hgl, Nat.sub_self]; rfl, hg9, fun b hb => ?_⟩
        rcases hfr with h | h
        · exact .inl (by rw [← h]; exact hb)
        · exact .inr (Nat.le_trans hkw.size (h b hb))
      · obtain ⟨g, e1, ⟨ms', e2, e2m⟩, e3⟩ := h3 (by omega)
        refine ⟨g, by rw [List.getElem?_append_left (by omega)]; exact e1, ⟨ms', hK.own e2 (fun b hb h => ?_), e2m.kgT hK hGT⟩, e3⟩
        rcases h with h | h
        · rcases e3 b hb with e | e
          · exact hs i k v vk b hik2 h1 hvk e h
          · have := hlt b ⟨vk, List.mem_of_getElem? hvk, h⟩
            omega
        · exact hno e2 b hb h
def GrJ (W : Nat) (wo : World) (B : Nat) (vk : Value) (k m : Nat) (l q : Value) (wr : World) : Prop :=
  ∃ (t : Nat) (xs : List Value), t ≤ 12 ∧ q = .int .i64 (t : Int) ∧ KG (fun b => vk.ownBlock = some b) wo wr ∧ wr.ownsRow B 66 1 l (m + t) xs ∧ MarkR W wr k xs (m + t) ∧ wr.ownsRow B 66 1 vk m (xs.take m) ∧ (l.ownBlock = vk.ownBlock ∨ ∀ b, l.ownBlock = some b → wo.heap.size ≤ b)
set_option maxRecDepth 100000 in
set_option maxHeartbeats 4000000 in
theorem growRdns_any (W : Nat) (p : Nat) (a b c d : Value) (B n : Nat) (vs : List Value) (ns : List Nat) (w : World) (h : BkAt w p a b c d) (ha : w.ownsRow B 59 1 c n vs) (hB : B ≤ w.heap.size) (hW : W ≤ w.heap.size)
    (hn : ns.length = n) (hn2 : n ≤ 250) (hl : ∀ m ∈ ns, m ≤ 900000) (hv : ∀ (i m : Nat), ns[i]? = some m → ∃ v, vs[i]? = some v ∧ MR W B w i v m) (hs : Sep vs) :
    Calls Tryz.prog 87 #[.pointer (some ⟨p, 0, none⟩)] w fun e w' => (∃ o, e = .returned o ∧ GrR W w B vs ns n o w') := by
  obtain ⟨i0, hi0, hz0, hz1, hz2⟩ := info_parts Tryz.infoRdn
  obtain ⟨j0, hj0, hy0, hy1, hy2⟩ := info_parts (show (Tryz.prog.info? 59).map (fun i => (i.zero, i.size, i.bytes)) = some (some (.slice none 0 0), 1, 24) by kernel_rfl)
  have hvl : vs.length = n := by have := ha.1; omega
  have hty : ∀ k, Blks vs k → Ty w k 66 := by
    rintro k ⟨v, hm, hk⟩
    obtain ⟨i, hi⟩ := List.getElem?_of_mem hm
    have hil := (List.getElem?_eq_some_iff.1 hi).1
    obtain ⟨v', h1, h2⟩ := hv i ns[i] (List.getElem?_eq_getElem (by omega))
    rw [hi] at h1
    cases h1
    exact own_ty h2.choose_spec.1 hk
  have hlt : ∀ k, Blks vs k → k < w.heap.size := by
    intro k hk
    obtain ⟨_, _, h'⟩ := hty k hk
    exact (Array.getElem?_eq_some_iff.1 h').1
  have hnp : ¬ Blks vs p := fun hk => absurd ((hty p hk).eq h.ty) (by decide)
  have hna : ∀ k, c.ownBlock = some k → ¬ Blks vs k := fun k hk hb => absurd ((hty k hb).eq (own_ty ha hk)) (by decide)
  have HV := Lib.hid hv
  have HL := Lib.hid hl
  have HN := Lib.hid hn
  have HB := Lib.hid hvl
  clear hv hl hty hn hvl
  go_enter Tryz.func87, Tryz.ntmps87
  go_wp2_with fail
  go_loopw [3, 4] (fun o q wr => ∃ k : Nat, k ≤ n ∧ q = .int .i64 (k : Int) ∧ GrR W w B vs ns k o wr) (fun _ q _ => n - (RowKit.intOf q).toNat)
  case atStart => exact ⟨0, by omega, rfl, [], KG.refl _ _, World.ownsRow_nil _ _ _ _, fun i m hi => by obtain ⟨v, h1, h2⟩ := HV.out i m hi; exact ⟨v, h1, h2, fun h => by omega⟩⟩
  case round =>
    obtain ⟨k, hk, rfl, hgr⟩ := hrel
    have HG := Lib.hid hgr
    obtain ⟨gs, hkg, hout, hrow⟩ := hgr
    have ha1 := hkg.own ha hna
    have hp1 := h.kg hkg hnp
    obtain ⟨_, _, q0, _⟩ := hp1.cells
    by_cases hkn : k < n
    · obtain ⟨m, hmk⟩ : ∃ m, ns[k]? = some m := ⟨ns[k]'(by have := HN.out; omega), List.getElem?_eq_getElem _⟩
      have hml := HL.out m (List.mem_of_getElem? hmk)
      obtain ⟨vk, hvk, ⟨ms, hov, hmr⟩, _⟩ := hrow k m hmk
      obtain ⟨ga, ca, hae, hca⟩ := own_at ha1 hvk
      have hvko : ∀ b, vk.ownBlock = some b → b < wr.heap.size := fun b hb => (hov.lt b hb).2
      have HVB := Lib.hid hvko
      obtain ⟨av, cv, hve⟩ : ∃ av cv, vk = .slice av m cv := by
        rcases hov.2 with ⟨h1, h2⟩ | ⟨g1, c1, _, h1, _⟩
        · exact ⟨none, 0, by rw [h1, h2]⟩
        · exact ⟨_, c1, h1⟩
      have g1 : decide ((k : Int) < (n : Int)) = true := decide_eq_true (by omega)
      have g2 : (k : Int) < (n : Int) := by omega
      have HVE := Lib.hid hve
      subst hae hve
      have HOV := Lib.hid hov
      have hwz := hkg.size
      clear hkg hout hrow hvko HVE
      go_wp2_with fail
      obtain ⟨wo, hwo⟩ : ∃ wo : World, wo = wr := ⟨_, rfl⟩
      subst hwo
      clear q0 hca
      go_loopw [5, 6] (fun l q wr => GrJ W wo B (.slice av m cv) k m l q wr) (fun _ q _ => 12 - (RowKit.intOf q).toNat)
      case atStart => exact ⟨0, ms, by omega, rfl, KG.refl _ _, hov, hmr, by rw [List.take_of_length_le (by rw [hmr.1]; exact Nat.le_refl _)]; exact hov, .inl rfl⟩
      case round =>
        clear hov hmr
        obtain ⟨t, xs, ht, rfl, hkg, hol, hmr, hov, hlb⟩ := hrel
        obtain ⟨N, hN⟩ : ∃ N, m + t = N := ⟨_, rfl⟩
        rw [hN] at hol hmr
        obtain ⟨al, cl, hle⟩ : ∃ al cl, u5 = .slice al N cl := by
          rcases hol.2 with ⟨h1, h2⟩ | ⟨g1, c1, _, h1, _⟩
          · exact ⟨none, 0, by rw [h1, h2]⟩
          · exact ⟨_, c1, h1⟩
        subst hle
        have hNl : N ≤ 900012 := by omega
        have hNm : m ≤ N := by omega
        have HNE := Lib.hid hN
        clear hN
        by_cases htt : t < 12
        · have i3 : decide ((t : Int) < 12) = true := decide_eq_true (by omega)
          have km := markRdns_any k N 1 wr (by omega) (by omega)
          have hszo := hkg.size
          go_wp2_with (first | (go_at_call 186; refine Calls.mono (show Calls _ _ _ _ _ from km) ?_; rintro e w4 ⟨⟨v4, rfl, nv, hv4, hnv4, _⟩, hb4⟩; rw [rds_length, mkN_length] at hv4; obtain ⟨g4, c4, he4, _, _⟩ := hv4.form (by omega); subst he4; have hone4 := own_one (by have := hv4.1; rw [rds_length, mkN_length]; omega) hnv4; have HO4 := Lib.hid hone4; have hmr4 := hmr.below hb4; clear hone4; have hol4 := ownBelow hol hb4; have hov4 := ownBelow hov hb4; have hkg4 := hkg.ext hb4; have hsz4 := hb4.size) | (at_builtin; refine wpList_append_both rfl (.tmp 27) (.tmp 31) 59 rfl B 66 i0 (.slice none 0 0) 1 24 Tryz.underlying59 hi0 hz0 hz1 hz2 rfl (by decide) (.slice al N cl) N xs rfl hol4 ⟨g4, 0, none⟩ 1 c4 nv rfl hv4.1 (hv4.cells rfl) HO4.out ?d3 ?d4 ?d5 ?_))
          case d3 => unfold maxLen; omega
          case d4 => omega
          case d5 => omega
          intro v' w7 ho7 hg7 hat7 hold7
          have hmr5 := hmr4.app (by have := hv4.1; omega) (fun j r hj => by obtain ⟨u, h1, h2⟩ := hnv4 j r hj; exact ⟨u, h1, ownMono h2 (by omega)⟩)
          have hmr7 := hmr5.far hol4 (by decide) hg7
          obtain ⟨e1, e2, e3⟩ := grow_step hkg4 hov4 hol4 hlb HVB.out (by rw [Nat.mul_one]) hNm (by omega) hg7 hat7 hold7
          have etk : xs.take m = (xs ++ nv).take m := by rw [List.take_append_of_le_length (by rw [hmr.1]; exact hNm)]
          rw [etk] at e2
          clear etk hmr4 hmr5 hnv4 hmr
          go_wp2_with fail
          go_roundw
          case rel => exact ⟨t + 1, xs ++ nv, by omega, by go_num, e1, by rw [← Nat.add_assoc, HNE.out]; exact ho7, by rw [← Nat.add_assoc, HNE.out]; exact hmr7, e2, e3⟩
          case measure => simp [RowKit.intOf]; omega
        · obtain rfl : t = 12 := by omega
          have i3 : decide ((12 : Int) < 12) = false := by decide
          have km := markRdns_any k N 60 wr (by omega) (by omega)
          have hszo := hkg.size
          obtain ⟨gs, hkw, hout, hrow⟩ := HG.out
          have hgl : gs.length = k := by have := hout.1; omega
          have HGL := Lib.hid hgl
          have HRO := Lib.hid hrow
          have HKW := Lib.hid hkw
          have HOU := Lib.hid hout
          have hwo := hkw.size
          have houtT : wr.ownsRow w.heap.size 59 1 u3 k gs := hkg.own hout (fun b hb hb2 => absurd ((own_ty hout hb).eq (own_ty HOV.out hb2)) (by decide))
          clear hrow hkw hout hgl
          go_wp2_with (first | (go_at_call 186; refine Calls.mono (show Calls _ _ _ _ _ from km) ?_; rintro e w4 ⟨⟨v4, rfl, nv, hv4, hnv4, _⟩, hb4⟩; rw [rds_length, mkN_length] at hv4; obtain ⟨g4, c4, he4, _, _⟩ := hv4.form (by omega); subst he4; have hone4 := own_one (by have := hv4.1; rw [rds_length, mkN_length]; omega) hnv4; have HO4 := Lib.hid hone4; have hmr4 := hmr.below hb4; clear hone4; have hol4 := ownBelow hol hb4; have hov4 := ownBelow hov hb4; have hkg4 := hkg.ext hb4; have hsz4 := hb4.size; have hout4 := ownBelow houtT hb4) | (at_builtin; refine wpList_append_both rfl (.tmp 34) (.tmp 38) 59 rfl B 66 i0 (.slice none 0 0) 1 24 Tryz.underlying59 hi0 hz0 hz1 hz2 rfl (by decide) (.slice al N cl) N xs rfl hol4 ⟨g4, 0, none⟩ 60 c4 nv rfl hv4.1 (hv4.cells rfl) HO4.out ?f3 ?f4 ?f5 ?_))
          case f3 => unfold maxLen; omega
          case f4 => omega
          case f5 => omega
          intro v' w7 ho7 hg7 hat7 hold7
          have hmr5 := hmr4.app (by have := hv4.1; omega) (fun j r hj => by obtain ⟨u, h1, h2⟩ := hnv4 j r hj; exact ⟨u, h1, ownMono h2 (by omega)⟩)
          have hmr7 := hmr5.far hol4 (by decide) hg7
          obtain ⟨e1, e2, e3⟩ := grow_step hkg4 hov4 hol4 hlb HVB.out (by rw [Nat.mul_one]) hNm (by omega) hg7 hat7 hold7
          have etk : xs.take m = (xs ++ nv).take m := by rw [List.take_append_of_le_length (by rw [hmr.1]; exact hNm)]
          rw [etk] at e2
          clear etk hmr4 hmr5 hnv4 hmr
          have hout7 := own_far hol4 hout4 (by decide) hg7
          obtain ⟨a7, c7, he7⟩ : ∃ a7 c7, v' = .slice a7 (N + 60) c7 := by
            rcases ho7.2 with ⟨h1, h2⟩ | ⟨g1, c1, _, h1, _⟩
            · omega
            · exact ⟨_, c1, h1⟩
          subst he7
          have hsz7 := hg7.size
          clear km hold7 hol4 hov4 hkg4 hout4 hat7 hg7
          go_wp2_with (at_builtin; refine wpList_append_own_at _ rfl (.tmp 33) (.tmp 40) 33 rfl w.heap.size 59 j0 (.slice none 0 0) 1 24 Tryz.underlying33 hj0 hy0 hy1 hy2 rfl (by decide) u3 k gs rfl (hout7.alloc _) ⟨w7.heap.size, 0, none⟩ 1 1 [.slice a7 (N + 60) c7] rfl rfl (cell_one_new _ _ _) ?h2 ?h3 ?h4 ?h5 ?_)
          case h2 => intro u hu; simp at hu; subst hu; rfl
          case h3 => unfold maxLen; omega
          case h4 => omega
          case h5 => simp; omega
          intro o' w9 ho9 hg9 _ hat9
          have hK9 : KG (fun b => (Value.slice av m cv).ownBlock = some b ∨ u3.ownBlock = some b) wo w9 := ((e1.mono (fun _ _ h => .inl h)).alloc _).grown hg9 (fun b hb => .inl (.inr hb))
          have hb8 := (Below.refl w7.heap.size w7).alloc (Nat.le_refl _) (.cells #[.slice a7 (N + 60) c7] 59)
          have hvk9 : MR W B w9 k (.slice av m cv) m := ⟨_, own_far (hout7.alloc _) (ownBelow e2 hb8) (by decide) hg9, ((hmr7.take (show m ≤ N + 60 by omega)).below hb8).far (hout7.alloc _) (by decide) hg9⟩
          have hg99 : MR W B w9 k (.slice a7 (N + 60) c7) (N + 60) := ⟨_, own_far (hout7.alloc _) (ownBelow ho7 hb8) (by decide) hg9, (hmr7.below hb8).far (hout7.alloc _) (by decide) hg9⟩
          rw [show N + 60 = m + 72 by have := HNE.out; omega] at hg99 e3 ho9
          have hnext := grow_nextR hs hlt hmk hvk HKW.out HOU.out HRO.out hK9 hvk9 hg99 e3 ho9
          clear hK9 hb8 hvk9 hg99 hmr7 ho9 hg9 hat9 e1 e2 e3 ho7 hout7
          go_wp2_with fail
          exact ⟨⟨k + 1, by omega, by go_num, hnext⟩, by simp [RowKit.intOf]; omega⟩
    · obtain rfl : k = n := by omega
      have i3 : decide ((k : Int) < (k : Int)) = false := decide_eq_false (by omega)
      clear hrow
      rcases id ha1.2 with ⟨hae, hz⟩ | ⟨ga, ca, cur, hae, _⟩
      all_goals
        subst hae
        go_wp2_with fail
        go_ret
        exact ⟨_, rfl, HG.out⟩
end Go.Proofs.YtegigcneimjimaaGreatDoor
