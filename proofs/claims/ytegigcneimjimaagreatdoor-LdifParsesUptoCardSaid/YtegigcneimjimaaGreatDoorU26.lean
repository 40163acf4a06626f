/- BgMods, BgC. -/
import Derived.Test.YtegigcneimjimaaGreatDoorU23
namespace Go.Proofs.YtegigcneimjimaaGreatDoor
open Go.RowKit Go.Lib
set_option maxRecDepth 100000
set_option maxHeartbeats 16000000
theorem Tryz.infoModsL : (Tryz.prog.info? 45).map (fun i => (i.zero, i.size, i.bytes)) = some (some (.slice none 0 0), 1, 24) := by kernel_rfl
def mkMods (i k : Nat) : List Value := [.int .i64 (-1 - (i : Int)), .string ⟨(nameL i k).toArray⟩, .slice none 0 0]
theorem mkMods_len (i k : Nat) : (mkMods i k).length = 3 := rfl
theorem mkMods_one (i k : Nat) : ∀ u ∈ mkMods i k, u.oneCell' = true := by
  intro u hu
  simp only [mkMods, List.mem_cons, List.not_mem_nil, or_false] at hu
  rcases hu with rfl | rfl | rfl <;> rfl
def MrMods (w : World) (i fr n : Nat) (v q : Value) (wr : World) : Prop :=
  ∃ k : Nat, k ≤ n ∧ q = .int .i64 ((fr + k : Nat) : Int) ∧ wr.ownsRow w.heap.size 182 3 v k (mks (mkMods i) fr k) ∧ Below w.heap.size w wr
theorem markMods_any (i fr n : Nat) (w : World) (hi : i ≤ 1000000) (hk : fr + n ≤ 1000000) :
    Calls Tryz.prog 184 #[.int .i64 (i : Int), .int .i64 (fr : Int), .int .i64 (n : Int)] w fun e w' => (∃ v, e = .returned v ∧ w'.ownsRow w.heap.size 182 3 v n (mks (mkMods i) fr n)) ∧ Below w.heap.size w w' := by
  obtain ⟨i0, hi0, hz0, hz1, hz2⟩ := info_parts Tryz.infoMod
  go_enter Tryz.func184, Tryz.ntmps184
  go_wp2_with fail
  go_loopw [7, 8] (fun v q wr => MrMods w i fr n v q wr) (fun _ q _ => fr + n - (RowKit.intOf q).toNat)
  case atStart => exact ⟨0, by omega, rfl, World.ownsRow_nil _ _ _ _, Below.refl _ _⟩
  case round =>
    obtain ⟨k, hk, rfl, hown, hbe⟩ := hrel
    have hsz := hbe.size
    by_cases hlt : k < n
    · have g1 : decide (((fr + k : Nat) : Int) < (fr : Int) + (n : Int)) = true := decide_eq_true (by omega)
      have hms := mks_succ (mkMods i) fr k
      have HM := Lib.hid hms
      clear hms
      have gi : IntKind.i64.wrap (-1 - (i : Int)) = -1 - (i : Int) := by rw [IntKind.wrap_i64]; omega
      have kn := bname_any i (fr + k) wr hi (by omega)
      go_wp2_with (first | (go_at_call 245; refine Calls.mono (show Calls _ _ _ _ _ from kn) ?_; rintro e w4 ⟨rfl, hb4⟩; have hown4 := ownBelow hown hb4; have hbe4 := below_ext hbe hb4; have hsz4 := hbe4.size) | (at_builtin; refine wpList_append_own_at _ rfl (.tmp 17) (.tmp 24) 45 rfl w.heap.size 182 i0 (.agg #[.int .i64 0, .string ⟨#[]⟩, .slice none 0 0]) 3 48 Tryz.underlying45 hi0 hz0 hz1 hz2 rfl (by decide) u7 k (mks (mkMods i) fr k) rfl (hown4.alloc _) ⟨w4.heap.size, 0, none⟩ 1 1 [.int .i64 (-1 - (i : Int)), .string ⟨(nameL i (fr + k)).toArray⟩, .slice none 0 0] rfl rfl ?d1 ?d2 ?d3 ?d4 ?d5 ?_))
      case d1 => exact cells_new w4 [.int .i64 (-1 - (i : Int)), .string ⟨(nameL i (fr + k)).toArray⟩, .slice none 0 0] 182
      case d2 => exact mkMods_one i (fr + k)
      case d3 => unfold maxLen; omega
      case d4 => omega
      case d5 => simp; omega
      intro v' w7 ho7 hg7 _ hat7
      have ho8 : w7.ownsRow w.heap.size 182 3 v' (k + 1) (mks (mkMods i) fr (k + 1)) := by rw [HM.out]; exact ho7
      go_wp2_with fail
      go_roundw
      case rel => exact ⟨k + 1, by omega, by go_num, ho8, (hbe4.alloc hsz4 _).grown hg7 (by simp; omega) (fun b hb => (hown4.lt b hb).1)⟩
      case measure => simp [RowKit.intOf]; omega
    · obtain rfl : k = n := by omega
      have g1 : decide (((fr + k : Nat) : Int) < (fr : Int) + (k : Int)) = false := decide_eq_false (by omega)
      go_wp2_with fail
      go_ret
      exact ⟨⟨_, rfl, hown⟩, hbe⟩
theorem putMods_any (p : Nat) (a : Value) (b : Nat → Value) (B n : Nat) (vs : List Value) (ns : List Nat) (w : World) (h : BF w p b) (hfa : b 8 = a) (ha : w.ownsRow B 45 1 a n vs)
    (hn : ns.length = n) (hn2 : n ≤ 250) (hl : ∀ m ∈ ns, m ≤ 900000) (hv : MkI 182 3 mkMods B w vs ns 0) (hs : Sep vs) :
    Calls Tryz.prog 67 #[.pointer (some ⟨p, 0, none⟩)] w fun e w' => e = .returned (.tuple #[]) ∧ KG (Blks vs) w w' ∧ MkI 182 3 mkMods B w' vs ns n := by
  have hvl : vs.length = n := by have := ha.1; omega
  have hty := hv.ty hn hvl
  have hlt : ∀ k, Blks vs k → k < w.heap.size := fun k hk => (hty k hk).2.1
  have hnp : ¬ Blks vs p := fun hk => absurd ((hty p hk).1.eq h.ty) (by decide)
  have hna : ∀ k, a.ownBlock = some k → ¬ Blks vs k := fun k hk hb => absurd ((hty k hb).1.eq (own_ty ha hk)) (by decide)
  have HV := Lib.hid hv
  have HL := Lib.hid hl
  have HN := Lib.hid hn
  have HB := Lib.hid hvl
  have HFA := Lib.hid hfa
  clear hv hl hty hn hvl hfa
  go_enter Tryz.func67, Tryz.ntmps67
  go_wp2_with fail
  go_loopw [2] (fun q wr => ∃ k : Nat, k ≤ n ∧ q = .int .i64 (k : Int) ∧ KG (Blks vs) w wr ∧ MkI 182 3 mkMods B wr vs ns k) (fun q _ => n - (RowKit.intOf q).toNat)
  case atStart => exact ⟨0, by omega, rfl, KG.refl _ _, HV.out⟩
  case round =>
    obtain ⟨k, hk, rfl, hkg, hrow⟩ := hrel
    have ha1 := hkg.own ha hna
    have hp1 := h.kg hkg hnp
    have q0 := hp1.cell 8 (by decide)
    rw [HFA.out] at q0
    by_cases hkn : k < n
    · obtain ⟨m, hmk⟩ : ∃ m, ns[k]? = some m := ⟨ns[k]'(by have := HN.out; omega), List.getElem?_eq_getElem _⟩
      have hml := HL.out m (List.mem_of_getElem? hmk)
      obtain ⟨v, xs, hvk, hov, _⟩ := hrow k m hmk
      obtain ⟨ga, ca, hae, hca⟩ := gow_at ha1 hvk
      obtain ⟨av, cv, hve⟩ := gl_of hov
      subst hae hve
      have g1 : decide ((k : Int) < (n : Int)) = true := decide_eq_true (by omega)
      have g2 : (k : Int) < (n : Int) := by omega
      have km := markMods_any k 0 m wr (by omega) (by omega)
      go_wp2_with (go_at_call 184; refine Calls.mono (show Calls _ _ _ _ _ from km) ?_; rintro e w4 ⟨⟨v4, rfl, hv4⟩, hb4⟩; obtain ⟨a4, c4, he4⟩ := gl_of hv4; subst he4)
      have hkg4 := hkg.ext hb4
      have hrow4 := hrow.below hb4
      have hov4 := ownBelow hov hb4
      have hszo := hkg.size
      clear hkg hrow hov ha1 hp1 q0 hca g1 hb4 km
      obtain ⟨wo, hwo⟩ : ∃ wo : World, wo = wr := ⟨_, rfl⟩
      subst hwo
      go_loopw [4] (fun q wr2 => MkJ 182 3 mkMods w B vs ns k wo.heap.size (.slice a4 m c4) m q wr2) (fun q _ => m - (RowKit.intOf q).toNat)
      case atStart => exact ⟨0, by omega, rfl, hkg4, hv4, hrow4, _, xs, hvk, by simpa [mks] using hov4⟩
      case round =>
        clear hkg4 hv4 hrow4 hov4
        obtain ⟨j, hj, rfl, hkg, hm, hrow, v, post, hvk', hov⟩ := hrel
        rw [hvk] at hvk'
        cases hvk'
        have ha1 := hkg.own ha hna
        have hp1 := h.kg hkg hnp
        have q0 := hp1.cell 8 (by decide)
        rw [HFA.out] at q0
        obtain ⟨ga', ca', hae, hca⟩ := gow_at ha1 hvk
        cases hae
        by_cases hjl : j < m
        · rcases id hov.2 with ⟨_, hz⟩ | ⟨gv, cv', cur, hve, _⟩
          · omega
          cases hve
          rcases id hm.2 with ⟨_, hz⟩ | ⟨gm, cm', curm, hme, _⟩
          · omega
          cases hme
          have hcell : ∀ i, i < m * 3 → ∃ y, wr.cell? ⟨gv, i, none⟩ = some y := fun i hi => by
            have hil : i < (mks (mkMods k) 0 j ++ post).length := by rw [hov.1]; exact hi
            have := hov.cells (g := gv) rfl i _ (List.getElem?_eq_getElem hil)
            rw [Addr.add_lit, Nat.zero_add] at this
            exact ⟨_, this⟩
          have m0 : wr.cell? ⟨gm, j * 3, none⟩ = some (.int .i64 (-1 - (k : Int))) := by
            have := hm.cells (g := gm) rfl (j * 3 + 0) _ ((mks_get (mkMods_len k) 0 m j 0 hjl (by decide)).trans rfl)
            rw [Addr.add_lit, Nat.zero_add] at this
            simpa using this
          have m1 : wr.cell? ⟨gm, j * 3 + 1, none⟩ = some (.string ⟨(nameL k (0 + j)).toArray⟩) := by
            have := hm.cells (g := gm) rfl (j * 3 + 1) _ ((mks_get (mkMods_len k) 0 m j 1 hjl (by decide)).trans rfl)
            rw [Addr.add_lit, Nat.zero_add] at this
            simpa using this
          have m2 : wr.cell? ⟨gm, j * 3 + 2, none⟩ = some (.slice none 0 0) := by
            have := hm.cells (g := gm) rfl (j * 3 + 2) _ ((mks_get (mkMods_len k) 0 m j 2 hjl (by decide)).trans rfl)
            rw [Addr.add_lit, Nat.zero_add] at this
            simpa using this
          obtain ⟨y0, n0⟩ : ∃ y, wr.cell? ⟨gv, j * 3, none⟩ = some y := by
            obtain ⟨y, hy⟩ := hcell (j * 3 + 0) (by omega)
            exact ⟨y, by simpa using hy⟩
          have f0 := hov.frozenAt (j * 3)
          obtain ⟨y1, n1⟩ : ∃ y, wr.cell? ⟨gv, j * 3 + 1, none⟩ = some y := by
            obtain ⟨y, hy⟩ := hcell (j * 3 + 1) (by omega)
            exact ⟨y, by simpa using hy⟩
          have f1 := hov.frozenAt (j * 3 + 1)
          obtain ⟨y2, n2⟩ : ∃ y, wr.cell? ⟨gv, j * 3 + 2, none⟩ = some y := by
            obtain ⟨y, hy⟩ := hcell (j * 3 + 2) (by omega)
            exact ⟨y, by simpa using hy⟩
          have f2 := hov.frozenAt (j * 3 + 2)
          have i1 : (j : Int) < (m : Int) := by omega
          have i3 : decide ((j : Int) < (m : Int)) = true := decide_eq_true i1
          clear hcell
          go_wp2
          go_still_tail 13, (by kernel_rfl)
          have hm' : wr.drew.ownsRow wo.heap.size 182 3 (.slice (some ⟨gm, 0, none⟩) m c4) m (mks (mkMods k) 0 m) := hm
          have hov' : wr.drew.ownsRow B 182 3 (.slice (some ⟨gv, 0, none⟩) m cv) m (mks (mkMods k) 0 j ++ post) := hov
          have hkg' : KG (Blks vs) w wr.drew := hkg.drew
          have hrow' : MkI 182 3 mkMods B wr.drew vs ns k := hrow
          change wpList _ _ _ _ _ wr.drew
          have n0' : wr.drew.cell? ⟨gv, j * 3, none⟩ = _ := n0
          have f0' : wr.drew.frozen? ⟨gv, j * 3, none⟩ = false := f0
          have n1' : wr.drew.cell? ⟨gv, j * 3 + 1, none⟩ = _ := n1
          have f1' : wr.drew.frozen? ⟨gv, j * 3 + 1, none⟩ = false := f1
          have n2' : wr.drew.cell? ⟨gv, j * 3 + 2, none⟩ = _ := n2
          have f2' : wr.drew.frozen? ⟨gv, j * 3 + 2, none⟩ = false := f2
          clear hm hov hkg hrow n0 f0 m0 n1 f1 m1 n2 f2 m2 ha1 hp1 q0 hca
          generalize wr.drew = wd at hm' hov' hkg' hrow' n0' f0' n1' f1' n2' f2' ⊢
          go_wp2_with fail
          have hne : (Value.slice (some ⟨gm, 0, none⟩) m c4).ownBlock ≠ some gv := fun e => by
            have e1 : gm = gv := Option.some.inj e
            have := hlt gv ⟨_, List.mem_of_getElem? hvk, rfl⟩
            have := (hm'.lt gm rfl).1
            omega
          have hnx := mkj_next mkMods_len hs hmk hvk hne hjl hkg' hm' hrow' hov'
          exact ⟨hnx, by simp [RowKit.intOf]; omega⟩
        · obtain rfl : j = m := by omega
          have i3 : decide (((j : Nat) : Int) < (j : Int)) = false := decide_eq_false (by omega)
          have hnext := mkj_done mkMods_len hmk hrow hvk hov
          clear hm hrow hov ha1 hp1 q0 hca
          go_wp2_with fail
          exact ⟨⟨k + 1, by omega, by go_num, hkg, hnext⟩, by simp [RowKit.intOf]; omega⟩
    · obtain rfl : k = n := by omega
      have i3 : decide ((k : Int) < (k : Int)) = false := decide_eq_false (by omega)
      have HF := Lib.hid hrow
      clear hrow
      rcases id ha1.2 with ⟨hae, hz⟩ | ⟨ga, ca, cur, hae, _⟩
      all_goals
        subst hae
        go_wp2_with fail
        first | go_end0 | refine bodyPost_ret (v := .tuple #[]) (by simp [results, Tryz.results67, go_sem]) rfl ?_
        exact ⟨rfl, hkg, HF.out⟩
theorem growMods_any (p : Nat) (a : Value) (b : Nat → Value) (B n : Nat) (vs : List Value) (ns : List Nat) (w : World) (h : BF w p b) (hfa : b 8 = a) (ha : w.ownsRow B 45 1 a n vs) (hB : B ≤ w.heap.size)
    (hn : ns.length = n) (hn2 : n ≤ 250) (hl : ∀ m ∈ ns, m ≤ 900000) (hv : MkI 182 3 mkMods B w vs ns n) (hs : Sep vs) :
    Calls Tryz.prog 82 #[.pointer (some ⟨p, 0, none⟩)] w fun e w' => (∃ o, e = .returned o ∧ GrI 45 182 3 mkMods w B vs ns n o w') := by
  obtain ⟨i0, hi0, hz0, hz1, hz2⟩ := info_parts Tryz.infoMod
  obtain ⟨j0, hj0, hy0, hy1, hy2⟩ := info_parts Tryz.infoModsL
  have hvl : vs.length = n := by have := ha.1; omega
  have hty := hv.ty hn hvl
  have hlt : ∀ k, Blks vs k → k < w.heap.size := fun k hk => (hty k hk).2.1
  have hnp : ¬ Blks vs p := fun hk => absurd ((hty p hk).1.eq h.ty) (by decide)
  have hna : ∀ k, a.ownBlock = some k → ¬ Blks vs k := fun k hk hb => absurd ((hty k hb).1.eq (own_ty ha hk)) (by decide)
  have HV := Lib.hid hv
  have HL := Lib.hid hl
  have HN := Lib.hid hn
  have HB := Lib.hid hvl
  have HFA := Lib.hid hfa
  clear hv hl hty hn hvl hfa
  go_enter Tryz.func82, Tryz.ntmps82
  go_wp2_with fail
  go_loopw [3, 4] (fun o q wr => ∃ k : Nat, k ≤ n ∧ q = .int .i64 (k : Int) ∧ GrI 45 182 3 mkMods w B vs ns k o wr) (fun _ q _ => n - (RowKit.intOf q).toNat)
  case atStart => exact ⟨0, by omega, rfl, [], KG.refl _ _, World.ownsRow_nil _ _ _ _, fun i m hi => by obtain ⟨v, xs, h1, h2, h3⟩ := HV.out i m hi; exact ⟨v, h1, by rw [← h3 (by have := (List.getElem?_eq_some_iff.1 hi).1; have := HN.out; omega)]; exact h2, fun h => by omega⟩⟩
  case round =>
    obtain ⟨k, hk, rfl, hgr⟩ := hrel
    have HG := Lib.hid hgr
    obtain ⟨gs, hkg, hout, hrow⟩ := hgr
    have ha1 := hkg.own ha hna
    have hp1 := h.kg hkg hnp
    have q0 := hp1.cell 8 (by decide)
    rw [HFA.out] at q0
    by_cases hkn : k < n
    · obtain ⟨m, hmk⟩ : ∃ m, ns[k]? = some m := ⟨ns[k]'(by have := HN.out; omega), List.getElem?_eq_getElem _⟩
      have hml := HL.out m (List.mem_of_getElem? hmk)
      obtain ⟨vk, hvk, hov, _⟩ := hrow k m hmk
      obtain ⟨ga, ca, hae, hca⟩ := gow_at ha1 hvk
      have hvko : ∀ b, vk.ownBlock = some b → b < wr.heap.size := fun b hb => (hov.lt b hb).2
      have HVB := Lib.hid hvko
      obtain ⟨av, cv, hve⟩ := gl_of hov
      have g1 : decide ((k : Int) < (n : Int)) = true := decide_eq_true (by omega)
      have g2 : (k : Int) < (n : Int) := by omega
      subst hae hve
      have HOV := Lib.hid hov
      have hwz := hkg.size
      clear hkg hout hrow hvko
      go_wp2_with fail
      obtain ⟨wo, hwo⟩ : ∃ wo : World, wo = wr := ⟨_, rfl⟩
      subst hwo
      clear q0 hca
      go_loopw [5, 6] (fun l q wr => GrJ 182 3 (mkMods k) wo B (.slice av m cv) m l q wr) (fun _ q _ => 12 - (RowKit.intOf q).toNat)
      case atStart => exact ⟨0, by omega, rfl, KG.refl _ _, hov, hov, .inl rfl⟩
      case round =>
        clear hov
        obtain ⟨t, ht, rfl, hkg, hol, hov, hlb⟩ := hrel
        obtain ⟨N, hN⟩ : ∃ N, m + t = N := ⟨_, rfl⟩
        rw [hN] at hol
        obtain ⟨al, cl, hle⟩ := gl_of hol
        subst hle
        have hNl : N ≤ 900012 := by omega
        have hNm : m ≤ N := by omega
        have HNE := Lib.hid hN
        clear hN
        by_cases htt : t < 12
        · have i3 : decide ((t : Int) < 12) = true := decide_eq_true (by omega)
          have km := markMods_any k N 1 wr (by omega) (by omega)
          have hszo := hkg.size
          go_wp2_with (first | (go_at_call 184; refine Calls.mono (show Calls _ _ _ _ _ from km) ?_; rintro e w4 ⟨⟨v4, rfl, hv4⟩, hb4⟩; obtain ⟨g4, c4, he4, _, _⟩ := hv4.form (by omega); subst he4; have hol4 := ownBelow hol hb4; have hov4 := ownBelow hov hb4; have hkg4 := hkg.ext hb4; have hsz4 := hb4.size) | (at_builtin; refine wpList_append_both rfl (.tmp 27) (.tmp 31) 45 rfl B 182 i0 (.agg #[.int .i64 0, .string ⟨#[]⟩, .slice none 0 0]) 3 48 Tryz.underlying45 hi0 hz0 hz1 hz2 rfl (by decide) (.slice al N cl) N (mks (mkMods k) 0 N) rfl hol4 ⟨g4, 0, none⟩ 1 c4 (mks (mkMods k) N 1) rfl (mks_length (mkMods_len k) N 1) (hv4.cells rfl) (mks_one (mkMods_one k) N 1) ?d3 ?d4 ?d5 ?_))
          case d3 => unfold maxLen; omega
          case d4 => omega
          case d5 => omega
          intro v' w7 ho7 hg7 hat7 hold7
          rw [mks_add] at ho7
          obtain ⟨e1, e2, e3⟩ := grw_step hkg4 hov4 hol4 hlb HVB.out (mks_take (mkMods_len k) hNm) hNm (by omega) hg7 hat7 hold7
          go_wp2_with fail
          go_roundw
          case rel => exact ⟨t + 1, by omega, by go_num, e1, by rw [← Nat.add_assoc, HNE.out]; exact ho7, e2, e3⟩
          case measure => simp [RowKit.intOf]; omega
        · obtain rfl : t = 12 := by omega
          have i3 : decide ((12 : Int) < 12) = false := by decide
          have km := markMods_any k N 60 wr (by omega) (by omega)
          have hszo := hkg.size
          obtain ⟨gs, hkw, hout, hrow⟩ := HG.out
          have hgl : gs.length = k := by have := hout.1; omega
          have HGL := Lib.hid hgl
          have HRO := Lib.hid hrow
          have HKW := Lib.hid hkw
          have HOU := Lib.hid hout
          have hwo := hkw.size
          have houtT : wr.ownsRow w.heap.size 45 1 u3 k gs := hkg.own hout (fun b hb hb2 => absurd ((own_ty hout hb).eq (own_ty HOV.out hb2)) (by decide))
          clear hrow hkw hout hgl
          go_wp2_with (first | (go_at_call 184; refine Calls.mono (show Calls _ _ _ _ _ from km) ?_; rintro e w4 ⟨⟨v4, rfl, hv4⟩, hb4⟩; obtain ⟨g4, c4, he4, _, _⟩ := hv4.form (by omega); subst he4; have hol4 := ownBelow hol hb4; have hov4 := ownBelow hov hb4; have hkg4 := hkg.ext hb4; have hsz4 := hb4.size; have hout4 := ownBelow houtT hb4) | (at_builtin; refine wpList_append_both rfl (.tmp 34) (.tmp 38) 45 rfl B 182 i0 (.agg #[.int .i64 0, .string ⟨#[]⟩, .slice none 0 0]) 3 48 Tryz.underlying45 hi0 hz0 hz1 hz2 rfl (by decide) (.slice al N cl) N (mks (mkMods k) 0 N) rfl hol4 ⟨g4, 0, none⟩ 60 c4 (mks (mkMods k) N 60) rfl (mks_length (mkMods_len k) N 60) (hv4.cells rfl) (mks_one (mkMods_one k) N 60) ?f3 ?f4 ?f5 ?_))
          case f3 => unfold maxLen; omega
          case f4 => omega
          case f5 => omega
          intro v' w7 ho7 hg7 hat7 hold7
          rw [mks_add] at ho7
          obtain ⟨e1, e2, e3⟩ := grw_step hkg4 hov4 hol4 hlb HVB.out (mks_take (mkMods_len k) hNm) hNm (by omega) hg7 hat7 hold7
          have hout7 := gow_far hol4 hout4 (by decide) hg7
          obtain ⟨a7, c7, he7⟩ := gl_of ho7
          subst he7
          have hsz7 := hg7.size
          clear km hold7 hol4 hov4 hkg4 hout4 hat7 hg7
          go_wp2_with (at_builtin; refine wpList_append_own_at _ rfl (.tmp 33) (.tmp 40) 28 rfl w.heap.size 45 j0 (.slice none 0 0) 1 24 Tryz.underlying28 hj0 hy0 hy1 hy2 rfl (by decide) u3 k gs rfl (hout7.alloc _) ⟨w7.heap.size, 0, none⟩ 1 1 [.slice a7 (N + 60) c7] rfl rfl (gell_one _ _ _) ?h2 ?h3 ?h4 ?h5 ?_)
          case h2 => intro u hu; simp at hu; subst hu; rfl
          case h3 => unfold maxLen; omega
          case h4 => omega
          case h5 => simp; omega
          intro o' w9 ho9 hg9 _ hat9
          have hK9 : KG (fun b => (Value.slice av m cv).ownBlock = some b ∨ u3.ownBlock = some b) wo w9 := ((e1.mono (fun _ _ h => .inl h)).alloc _).grown hg9 (fun b hb => .inl (.inr hb))
          have hb8 := (Below.refl w7.heap.size w7).alloc (Nat.le_refl _) (.cells #[.slice a7 (N + 60) c7] 45)
          have hvk9 := gow_far (hout7.alloc _) (ownBelow e2 hb8) (by decide) hg9
          have hg99 := gow_far (hout7.alloc _) (ownBelow ho7 hb8) (by decide) hg9
          rw [show N + 60 = m + 72 by have := HNE.out; omega] at hg99 e3 ho9
          have hnext := grw_next (by decide) hs hlt hmk hvk HKW.out HOU.out HRO.out hK9 hvk9 hg99 e3 ho9
          clear hK9 hb8 hvk9 hg99 ho9 hg9 hat9 e1 e2 e3 ho7 hout7
          go_wp2_with fail
          exact ⟨⟨k + 1, by omega, by go_num, hnext⟩, by simp [RowKit.intOf]; omega⟩
    · obtain rfl : k = n := by omega
      have i3 : decide ((k : Int) < (k : Int)) = false := decide_eq_false (by omega)
      clear hrow
      rcases id ha1.2 with ⟨hae, hz⟩ | ⟨ga, ca, cur, hae, _⟩
      all_goals
        subst hae
        go_wp2_with fail
        go_ret
        exact ⟨_, rfl, HG.out⟩
def mlMods (i m : Nat) : List Md := (List.range m).map fun j => (-1 - (i : Int), nameL i (0 + j), [])
theorem mlMods_at {B i m : Nat} {w : World} {v : Value} (h : w.ownsRow B 182 3 v m (mks (mkMods i) 0 m)) : ModsAt w v (mlMods i m) := by
  have hl : (mlMods i m).length = m := by simp [mlMods]
  rcases id h.2 with ⟨rfl, rfl⟩ | ⟨g, cap, cur, rfl, hb, hg, hc, _⟩
  · exact ⟨none, 0, rfl, Nat.le_refl _, fun h => absurd rfl h⟩
  · refine ⟨some ⟨g, 0, none⟩, cap, by rw [hl], by rw [hl]; exact hc, fun _ => ⟨g, 0, rfl, fun j x hj => ?_⟩⟩
    have hjm : j < m := by have := (List.getElem?_eq_some_iff.1 hj).1; omega
    have hx : (-1 - (i : Int), nameL i (0 + j), []) = x := by
      unfold mlMods at hj
      rw [List.getElem?_map, List.getElem?_range hjm] at hj
      exact Option.some.inj hj
    subst hx
    have c0 := h.cells (g := g) rfl (j * 3 + 0) _ ((mks_get (mkMods_len i) 0 m j 0 hjm (by decide)).trans rfl)
    rw [Addr.add_lit] at c0
    have c1 := h.cells (g := g) rfl (j * 3 + 1) _ ((mks_get (mkMods_len i) 0 m j 1 hjm (by decide)).trans rfl)
    rw [Addr.add_lit] at c1
    have c2 := h.cells (g := g) rfl (j * 3 + 2) _ ((mks_get (mkMods_len i) 0 m j 2 hjm (by decide)).trans rfl)
    rw [Addr.add_lit] at c2
    exact ⟨c0, c1, _, c2, none, 0, rfl, Nat.le_refl _, fun h => absurd rfl h⟩
theorem okMods_ml (i m : Nat) (hm : m ≤ 950000) : WdM (mlMods i m) := ⟨by simp [mlMods]; omega, fun x hx => by simp only [mlMods, List.mem_map] at hx; obtain ⟨_, _, rfl⟩ := hx; exact Nat.zero_le _⟩
theorem markedMods_any (a : Value) (B' B n : Nat) (vs : List Value) (ns : List Nat) (w : World) (ha : w.ownsRow B' 45 1 a n vs) (hn : ns.length = n) (hn2 : n ≤ 250) (hl : ∀ m ∈ ns, m ≤ 950000) (hv : MkI 182 3 mkMods B w vs ns n) :
    Calls Tryz.prog 100 #[a] w fun e w' => e = .returned (.bool true) ∧ Below w.heap.size w w' := by
  have HV := Lib.hid hv
  have HN := Lib.hid hn
  have HL := Lib.hid hl
  clear hv hn hl
  obtain ⟨aa, ca, hae⟩ := gl_of ha
  subst hae
  go_enter Tryz.func100, Tryz.ntmps100
  go_wp2_with fail
  go_loopw [3] (fun i wr => ∃ k : Nat, i = .int .i64 (k : Int) ∧ k ≤ n ∧ Below w.heap.size w wr) (fun i _ => n - (RowKit.intOf i).toNat)
  case atStart => exact ⟨0, rfl, by omega, Below.refl _ _⟩
  case round =>
    obtain ⟨k, rfl, hk, hbe⟩ := hrel
    by_cases hkl : k < n
    · obtain ⟨m, hmk⟩ : ∃ m, ns[k]? = some m := ⟨ns[k]'(by have := HN.out; omega), List.getElem?_eq_getElem _⟩
      have hml := HL.out m (List.mem_of_getElem? hmk)
      obtain ⟨v, xs, hvk, hov, hxs⟩ := HV.out k m hmk
      obtain rfl := hxs hkl
      have ha1 := ownBelow ha hbe
      have hov1 := ownBelow hov hbe
      obtain ⟨ga, ca', hae, hca⟩ := gow_at ha1 hvk
      cases hae
      obtain ⟨av, cv, hve⟩ := gl_of hov1
      subst hve
      have i1 : (k : Int) < (n : Int) := by omega
      have i3 : decide ((k : Int) < (n : Int)) = true := decide_eq_true i1
      have km := markMods_any k 0 m wr.drew (by omega) (by omega)
      have hbe1 : Below w.heap.size w wr.drew := hbe.drew
      have hva2 : wr.drew.ownsRow B 182 3 (.slice av m cv) m (mks (mkMods k) 0 m) := hov1
      have hca2 : wr.drew.cell? ⟨ga, k, none⟩ = some (.slice av m cv) := hca
      have HVA := Lib.hid hva2
      clear hov hov1 ha1 hvk hmk hbe hva2 hxs
      go_wp2_with fail
      go_region_held3 (fun w' => w'.cell? ⟨ga, k, none⟩ = some (.slice av m cv))
        (first | go_keep | exact hca2 | exact s0)
        (first
          | (go_at_call 184; refine Calls.mono (show Calls _ _ _ _ _ from km) ?_; rintro e w4 ⟨⟨v4, rfl, hv4⟩, hb4⟩; have s0 : w4.cell? ⟨ga, k, none⟩ = some (.slice av m cv) := (hb4.cell (lt_of_cell hca2)).trans hca2; have hvb := ownBelow HVA.out hb4; obtain ⟨a4, c4, he4⟩ := gl_of hv4; subst he4; have ks := bSameMods_self _ _ _ w4 (mlMods_at hvb) (mlMods_at hv4) (okMods_ml k m hml); have hbe4 := below_ext hbe1 hb4)
          | (go_at_call 164; refine Calls.mono (show Calls _ _ _ _ _ from ks) ?_; rintro e w5 ⟨rfl, nq5, rfl⟩))
      go_wp2_with fail
      exact ⟨⟨k + 1, by go_num, by omega, below_drwN hbe4 _⟩, by simp [RowKit.intOf]; omega⟩
    · obtain rfl : k = n := by omega
      have i3 : decide ((k : Int) < (k : Int)) = false := decide_eq_false (by omega)
      go_wp2_with fail
      go_ret
      exact ⟨rfl, hbe⟩
theorem stillMods_any (p : Nat) (a c : Value) (b : Nat → Value) (B n : Nat) (vs us : List Value) (ls : List (List Md)) (w : World) (h : BF w p b) (hfa : b 8 = a) (hfc : b 9 = c) (ha : w.ownsRow B 45 1 a n vs) (hb : w.ownsRow B 45 1 c n us)
    (hn : ls.length = n) (hn2 : n ≤ 250) (hv : ∀ (i : Nat) (l : List Md), ls[i]? = some l → OkM l ∧ ∃ v u, vs[i]? = some v ∧ us[i]? = some u ∧ MO B w v l ∧ MO B w u l) :
    Calls Tryz.prog 46 #[.pointer (some ⟨p, 0, none⟩)] w fun e w' => e = .returned (.bool true) ∧ Below w.heap.size w w' := by
  have q0 := h.cell 8 (by decide)
  have q1 := h.cell 9 (by decide)
  rw [hfa] at q0
  rw [hfc] at q1
  have HV := Lib.hid hv
  clear hv hfa hfc
  go_enter Tryz.func46, Tryz.ntmps46
  go_wp2_with fail
  go_loopw [3] (fun i wr => ∃ k : Nat, i = .int .i64 (k : Int) ∧ k ≤ n ∧ ∃ m : Nat, wr = w.drewN m) (fun i _ => n - (RowKit.intOf i).toNat)
  case atStart => exact ⟨0, rfl, by omega, 0, rfl⟩
  case round =>
    obtain ⟨k, rfl, hk, m, rfl⟩ := hrel
    by_cases hkl : k < n
    · obtain ⟨l, hl⟩ : ∃ l, ls[k]? = some l := ⟨ls[k]'(by omega), List.getElem?_eq_getElem _⟩
      obtain ⟨hll, v, u, hv, hu, h1, h2⟩ := HV.out k l hl
      obtain ⟨ga, ca, hae, hca⟩ := gow_at ha hv
      obtain ⟨gb, cb, hbe', hcb⟩ := gow_at hb hu
      subst hae hbe'
      have i1 : (k : Int) < (n : Int) := by omega
      have i3 : decide ((k : Int) < (n : Int)) = true := decide_eq_true i1
      have ks := fun a => (bSameMods_self v u l (w.drewN (m + a)) (h1.at.drewN _) (h2.at.drewN _) hll.w).mono (fun e w'' h => (show e = .returned (.bool true) ∧ ∃ n, w'' = w.drewN (m + n) from ⟨h.1, h.2.elim fun n hn => ⟨a + n, by rw [hn, World.drewN_drewN, Nat.add_assoc]⟩⟩))
      obtain ⟨b1, d1, e5⟩ := h1.sl
      obtain ⟨b2, d2, e6⟩ := h2.sl
      subst e5 e6
      clear hn hl hv hu
      go_wp2
      go_quiet (exact ks _)
      go_wp2
      exact ⟨⟨k + 1, by go_num, by omega, _, rfl⟩, by simp [RowKit.intOf]; omega⟩
    · obtain rfl : k = n := by omega
      have i3 : decide ((k : Int) < (k : Int)) = false := decide_eq_false (by omega)
      rcases id ha.2 with ⟨hae, hz⟩ | ⟨ga, ca, cur, hae, _⟩
      all_goals
        subst hae
        go_wp2_with fail
        go_ret
        exact ⟨rfl, below_drwN (Below.refl _ _) _⟩
theorem Mods_any (p : Nat) (a c v : Value) (b : Nat → Value) (B n : Nat) (vs us : List Value) (l : List Md) (w : World) (h : BF w p b) (hfa : b 8 = a) (hfc : b 9 = c) (ha : w.ownsRow B 45 1 a n vs) (hb : w.ownsRow B 45 1 c n us) (Bv : Nat) (hv : MO Bv w v l) (hl : OkM l)
    (hB : B ≤ w.heap.size) (hne : ∀ k, a.ownBlock = some k → c.ownBlock ≠ some k) (hn : n ≤ 250) :
    Calls Tryz.prog 158 #[.pointer (some ⟨p, 0, none⟩), v] w fun e w' => e = .returned (.tuple #[]) ∧ KPost 45 MO w p b 8 a c v B n vs us l w' := by
  obtain ⟨j0, hj0, hy0, hy1, hy2⟩ := info_parts Tryz.infoModsL
  obtain ⟨aa, ca, hae⟩ := gl_of ha
  subst hae
  have q0 := h.cell 8 (by decide)
  rw [hfa] at q0
  by_cases hlt : n < 250
  · have i3 : decide ((n : Int) < 250) = true := decide_eq_true (by omega)
    obtain ⟨av, cv, hve⟩ := hv.sl
    subst hve
    have HNE := Lib.hid hne
    have HFC := Lib.hid hfc
    have HFA := Lib.hid hfa
    clear hne hfc hfa
    have hbA : Below w.heap.size w (w.alloc (.cells #[.slice av l.length cv] 45)) := (Below.refl _ _).alloc (Nat.le_refl _) _
    have hA1 := ownBelow ha hbA
    have hB1 := ownBelow hb hbA
    have hv1 := hv.below hbA
    have h1 := h.below hbA
    go_enter Tryz.func158, Tryz.ntmps158
    go_wp2_with (at_builtin; refine wpList_append_own_at _ rfl (.tmp 14) (.tmp 16) 28 rfl B 45 j0 (.slice none 0 0) 1 24 Tryz.underlying28 hj0 hy0 hy1 hy2 rfl (by decide) (.slice aa n ca) n vs rfl hA1 ⟨w.heap.size, 0, none⟩ 1 1 [.slice av l.length cv] rfl rfl (gell_one _ _ _) ?h2 ?h3 ?h4 ?h5 ?_)
    case h2 => intro u hu; simp at hu; subst hu; rfl
    case h3 => unfold maxLen; omega
    case h4 => omega
    case h5 => simp; omega
    intro a' w7 ho7 hg7 _ hat7
    have h7 := h1.grown hA1 (by decide) hg7
    have hB7 : w7.ownsRow B 45 1 c n us := by
      refine hB1.kept hg7 ?_
      cases hk : c.ownBlock with
      | none => exact .inl rfl
      | some k => exact .inr (fun e => HNE.out k e.symm hk)
    have hv7 := hv1.grownL hA1 (by decide) hg7
    have q0' := h7.cell 8 (by decide)
    have f0 := h7.frozen 8
    have hk7 : KG (fun k => k = p ∨ (Value.slice aa n ca).ownBlock = some k ∨ c.ownBlock = some k) w w7 := (KG.of_below hbA).grown hg7 (fun k hk => .inl (.inr (.inl hk)))
    have hsz7 := hk7.size
    obtain ⟨ga, cap', hae'⟩ : ∃ g c, a' = .slice (some ⟨g, 0, none⟩) (n + 1) c := by
      rcases ho7.2 with ⟨_, h0⟩ | ⟨g, c, _, h0, _⟩
      · omega
      · exact ⟨g, c, h0⟩
    subst hae'
    have hne7 : ∀ k, (Value.slice (some ⟨ga, 0, none⟩) (n + 1) cap').ownBlock = some k → c.ownBlock ≠ some k := by
      intro k hk e
      rcases hat7 with h | h
      · exact HNE.out k (by rw [← h]; exact hk) e
      · rw [h] at hk
        have := (hb.lt k e).2
        have h3 : (w.alloc (.cells #[.slice av l.length cv] 45)).heap.size = w.heap.size + 1 := by simp
        have h4 := Option.some.inj hk
        omega
    clear q0 hat7
    go_wp2_with fail
    have h8 := h7.set 8 (.slice (some ⟨ga, 0, none⟩) (n + 1) cap')
    have ho8 := gow_setp (i := 8) (x := .slice (some ⟨ga, 0, none⟩) (n + 1) cap') h7 ho7 (by decide)
    have hB8 := gow_setp (i := 8) (x := .slice (some ⟨ga, 0, none⟩) (n + 1) cap') h7 hB7 (by decide)
    have hv8 := hv7.setp (i := 8) (x := .slice (some ⟨ga, 0, none⟩) (n + 1) cap') h7
    have hk8 := hk7.set ⟨p, 8, none⟩ (.slice (some ⟨ga, 0, none⟩) (n + 1) cap') (.inl (.inl rfl))
    clear h7 ho7 hB7 hk7 q0' f0 hg7 h1 hA1 hB1 hsz7
    generalize w7.setCell ⟨p, 8, none⟩ (.slice (some ⟨ga, 0, none⟩) (n + 1) cap') = w8 at h8 ho8 hB8 hv8 hk8 ⊢
    refine region_anyT (S := fun w' => w'.cell? ⟨p, 9, none⟩ = some c) (st := 11) (by kernel_rfl) ?_
    have h9 : BF w8.drew p (upd b 8 (.slice (some ⟨ga, 0, none⟩) (n + 1) cap')) := h8
    have ho9 : w8.drew.ownsRow B 45 1 (.slice (some ⟨ga, 0, none⟩) (n + 1) cap') (n + 1) (vs ++ [.slice av l.length cv]) := ho8
    have hB9 : w8.drew.ownsRow B 45 1 c n us := hB8
    have hv9 : MO Bv w8.drew (.slice av l.length cv) l := hv8
    have hk9 := hk8.drew
    clear h8 ho8 hB8 hk8 hv8 hv7 hv1
    generalize w8.drew = w9 at h9 ho9 hB9 hv9 hk9 ⊢
    have s0 := h9.cell 9 (by decide)
    rw [upd_ne _ _ (by decide), HFC.out] at s0
    refine anyT_free 0 (.pointer (some ⟨p, 0, none⟩)) rfl (by decide) (by kernel_rfl) (by kernel_rfl) (by kernel_rfl) (fun _ _ _ h => h) (by rfl) (fun w' => by go_simp) (.inr s0) (fun K hK => ?_); go_simp; refine hK _ _ ?_; clear hK K
    refine anyT_free 1 (.pointer (some ⟨p, 0, none⟩)) rfl (by decide) (by kernel_rfl) (by kernel_rfl) (by kernel_rfl) (fun _ _ _ h => h) (by rfl) (fun w' => by go_simp) (.inr s0) (fun K hK => ?_); go_simp; refine hK _ _ ?_; clear hK K
    refine anyT_free 2 (.pointer (some ⟨p, 0, none⟩)) rfl (by decide) (by kernel_rfl) (by kernel_rfl) (by kernel_rfl) (fun _ _ _ h => h) (by rfl) (fun w' => by go_simp) (.inr s0) (fun K hK => ?_); go_simp; refine hK _ _ ?_; clear hK K
    refine anyT_free 3 (.pointer (some ⟨p, 9, none⟩)) rfl (by decide) (by kernel_rfl) (by kernel_rfl) (by kernel_rfl) (fun _ _ _ h => h) (by rfl) (fun w' => by go_simp) (.inr s0) (fun K hK => ?_); go_simp; refine hK _ _ ?_; clear hK K
    refine anyT_take 4 c rfl (by decide) rfl (by kernel_rfl) (by kernel_rfl) (by kernel_rfl) (by kernel_rfl) (fun _ _ _ h => h) (by rfl) (fun w' hS => by go_simp) (by rfl) s0 (fun K hK => ?_); go_simp; refine hK _ _ ?_; clear hK K
    refine anyT_free 5 (.slice av l.length cv) rfl (by decide) (by kernel_rfl) (by kernel_rfl) (by kernel_rfl) (fun _ _ _ h => h) (by rfl) (fun w' => by go_simp) (.inr s0) (fun K hK => ?_); go_simp; refine hK _ _ ?_; clear hK K
    have hsz9 := hk9.size
    have kc := bcopyMods _ l w9 hv9.at hl
    refine anyT_one 6 (by kernel_rfl) rfl (by rfl) (fun K hK => ?_); go_simp
    refine Calls.mono (show Calls _ _ _ _ _ from kc) ?_
    rintro e w10 ⟨⟨u, rfl, hu⟩, hb10⟩
    obtain ⟨au, cu, hue⟩ := hu.sl
    subst hue
    have h10 := h9.below hb10
    have ho10 := ownBelow ho9 hb10
    have hB10 := ownBelow hB9 hb10
    have hk10 := hk9.ext hb10
    have s1 := (hb10.cell (lt_of_cell s0)).trans s0
    refine hK _ _ (.inr s1) ?_; clear hK K
    clear kc s0 h9 ho9 hB9 hk9 hv9 hb10
    have hsz10 := hk10.size
    refine anyT_one 7 (by kernel_rfl) rfl (by rfl) (fun K hK => ?_); go_simp
    have hbC : Below w10.heap.size w10 (w10.alloc (.cells #[.slice au l.length cu] 45)) := (Below.refl _ _).alloc (Nat.le_refl _) _
    have h11 := h10.below hbC
    have ho11 := ownBelow ho10 hbC
    have hB11 := ownBelow hB10 hbC
    have hu11 := hu.below hbC
    have hk11 := hk10.ext hbC
    have s2 := (hbC.cell (lt_of_cell s1)).trans s1
    refine hK _ _ (.inr s2) ?_; clear hK K
    refine anyT_one 8 (by kernel_rfl) rfl (by rfl) (fun K hK => ?_)
    refine wp_append_lies _ (.tmp 24) (.tmp 27) 28 rfl B 45 j0 (.slice none 0 0) 1 24 Tryz.underlying28 hj0 hy0 hy1 hy2 rfl (by decide) c n us rfl hB11 ⟨w10.heap.size, 0, none⟩ 1 1 [.slice au l.length cu] rfl rfl (gell_one _ _ _) ?k1 (by decide) ?k2 ?k3 ?k4 _ rfl ?_
    case k1 => intro u hu; simp at hu; subst hu; rfl
    case k2 => unfold maxLen; omega
    case k3 => omega
    case k4 => simp; omega
    intro gb cb w12 ho12 hg12 hat12 hlt12
    have h12 := h11.grown hB11 (by decide) hg12
    have hu12 := hu11.grownL hB11 (by decide) hg12
    have hoo12 : w12.ownsRow B 45 1 (.slice (some ⟨ga, 0, none⟩) (n + 1) cap') (n + 1) (vs ++ [.slice av l.length cv]) := by
      exact ho11.kept hg12 (.inr (fun e => hne7 _ rfl e.symm))
    have hne12 : ∀ k, (Value.slice (some ⟨ga, 0, none⟩) (n + 1) cap').ownBlock = some k → (Value.slice (some ⟨gb, 0, none⟩) (n + 1) cb).ownBlock ≠ some k := by
      intro k hk e
      rcases hat12 with h | h
      · exact hne7 k hk (by rw [h]; exact e)
      · have h1 := (ho10.lt k hk).2
        have h2 : gb = k := Option.some.inj e
        simp at h
        omega
    have hk12 : KG (fun k => k = p ∨ (Value.slice aa n ca).ownBlock = some k ∨ c.ownBlock = some k) w w12 := hk11.grown hg12 (fun k hk => .inl (.inr (.inr hk)))
    have s3 := h12.cell 9 (by decide)
    rw [upd_ne _ _ (by decide), HFC.out] at s3
    refine hK _ _ (.inr s3) ?_; clear hK K
    clear hg12 hat12 ho11 hB11 hu11 h11 hk11 ho10 hB10 h10 hk10 s1 s2 hbC hu
    have f2 := h12.frozen 9
    refine anyT_one 9 (by kernel_rfl) rfl (by rfl) (fun K hK => ?_); go_simp; refine hK _ _ (.inr s3) ?_; clear hK K
    refine anyT_one 10 (by kernel_rfl) rfl (by rfl) (fun K hK => ?_); go_simp; refine hK _ _ (.inr s3) ?_; clear hK K
    refine anyT_one 11 (by kernel_rfl) rfl (by rfl) (fun K hK => ?_); go_simp; refine hK _ _ (.inl (by rfl)) ?_; clear hK K
    have h13 := h12.set 9 (.slice (some ⟨gb, 0, none⟩) (n + 1) cb)
    have ho13 := gow_setp (i := 9) (x := .slice (some ⟨gb, 0, none⟩) (n + 1) cb) h12 hoo12 (by decide)
    have hB13 := gow_setp (i := 9) (x := .slice (some ⟨gb, 0, none⟩) (n + 1) cb) h12 ho12 (by decide)
    have hu13 := hu12.setp (i := 9) (x := .slice (some ⟨gb, 0, none⟩) (n + 1) cb) h12
    have hk13 := hk12.set ⟨p, 9, none⟩ (.slice (some ⟨gb, 0, none⟩) (n + 1) cb) (.inl (.inl rfl))
    clear s3 f2 h12 hoo12 ho12 hu12 hk12
    generalize w12.setCell ⟨p, 9, none⟩ (.slice (some ⟨gb, 0, none⟩) (n + 1) cb) = w13 at h13 ho13 hB13 hu13 hk13 ⊢
    refine anyT_done (by kernel_rfl) ?_ _
    have hpost : KPost 45 MO w p b 8 (.slice aa n ca) c (.slice av l.length cv) B n vs us l w13 := by
      have e1 := ho13.1
      have e2 := hB13.1
      refine ⟨_, _, vs ++ [.slice av l.length cv], us ++ [.slice au l.length cu], h13, ?_, ?_, hne12, hk13, .inl ⟨hlt, rfl, _, rfl, hu13.mono (by omega)⟩⟩
      · rw [e1, Nat.mul_one]; exact ho13
      · rw [e2, Nat.mul_one]; exact hB13
    first | go_end0 | refine bodyPost_ret (v := .tuple #[]) (by simp [results, Tryz.results158, go_sem]) rfl ?_
    exact ⟨rfl, hpost⟩
  · obtain rfl : n = 250 := by omega
    have hpost : KPost 45 MO w p b 8 (.slice aa 250 ca) c v B 250 vs us l w := by
      have e1 := ha.1
      have e2 := hb.1
      refine ⟨_, _, vs, us, h.same hfa hfc, ?_, ?_, hne, KG.refl _ _, .inr ⟨rfl, rfl, rfl⟩⟩
      · rw [e1]; exact ha
      · rw [e2]; exact hb
    clear hfa hfc
    go_enter Tryz.func158, Tryz.ntmps158
    go_wp2_with fail
    first | go_end0 | refine bodyPost_ret (v := .tuple #[]) (by simp [results, Tryz.results158, go_sem]) rfl ?_
    exact ⟨rfl, hpost⟩
theorem AO.farC {B B' size n : Nat} {w w' : World} {v l' : Value} {xs : List Value} {l : List At} (h : AO B w v l) (hl : w.ownsRow B' 47 size l' n xs) (hg : w.grownBy w' l'.ownBlock) : AO B w' v l := by
  obtain ⟨us, h1, h2, h3⟩ := h
  exact ⟨us, gow_far hl h1 (by decide) hg, h2, fun j x u a b => gow_far hl (h3 j x u a b) (by decide) hg⟩
theorem MO.farC {B B' size n : Nat} {w w' : World} {v l' : Value} {xs : List Value} {l : List Md} (h : MO B w v l) (hl : w.ownsRow B' 47 size l' n xs) (hg : w.grownBy w' l'.ownBlock) : MO B w' v l := by
  obtain ⟨us, h1, h2, h3⟩ := h
  exact ⟨us, gow_far hl h1 (by decide) hg, h2, fun j x u a b => gow_far hl (h3 j x u a b) (by decide) hg⟩
theorem chgA_one (c : Chg) (q : Value × Value) (h1 : q.1.oneCell' = true) (h2 : q.2.oneCell' = true) : ∀ u ∈ (chgA c q.1 q.2).toList, u.oneCell' = true := by
  intro u hu
  simp only [chgA, List.mem_cons, List.not_mem_nil, or_false] at hu
  rcases hu with rfl | rfl | rfl | rfl | rfl | rfl | rfl | rfl | rfl | rfl <;> first | rfl | exact h1 | exact h2
theorem flatC_one : ∀ (cs : List Chg) (us : List (Value × Value)), us.length = cs.length → (∀ (j : Nat) (q : Value × Value), us[j]? = some q → q.1.oneCell' = true ∧ q.2.oneCell' = true) → ∀ u ∈ flatC cs us, u.oneCell' = true
  | [], _, _, _, u, hu => by simp [flatC] at hu
  | _ :: _, [], hl, _, _, _ => by simp at hl
  | c :: cs, q :: us, hl, hp, u, hu => by
    simp only [flatC, List.mem_append] at hu
    rcases hu with hu | hu
    · exact chgA_one c q (hp 0 q rfl).1 (hp 0 q rfl).2 u hu
    · exact flatC_one cs us (by simpa using hl) (fun j q h => hp (j + 1) q (by simpa using h)) u hu
theorem flatC_put : ∀ (cs : List Chg) (us : List (Value × Value)) (k : Nat) (q : Value × Value) (x y : Value), us[k]? = some q → us.length = cs.length → ((flatC cs us).set (k * 10 + 4) x).set (k * 10 + 5) y = flatC cs (us.set k (x, y))
  | [], [], k, q, x, y, h, _ => by simp at h
  | [], _ :: _, _, _, _, _, _, hl => by simp at hl
  | _ :: _, [], k, q, x, y, h, _ => by simp at h
  | c :: cs, u :: us, 0, q, x, y, _, _ => by simp [flatC, chgA]
  | c :: cs, u :: us, k + 1, q, x, y, h, hl => by
    have ih := flatC_put cs us k q x y (by simpa using h) (by simpa using hl)
    have e1 : (k + 1) * 10 + 4 = (chgA c u.1 u.2).toList.length + (k * 10 + 4) := by rw [chgA_len]; omega
    have e2 : (k + 1) * 10 + 5 = (chgA c u.1 u.2).toList.length + (k * 10 + 5) := by rw [chgA_len]; omega
    rw [List.set_cons_succ, flatC, flatC, e1, e2, List.set_append_right _ _ (by omega), Nat.add_sub_cancel_left, List.set_append_right _ _ (by omega), Nat.add_sub_cancel_left, ih]
def CcRel (w : World) (l : List Chg) (Bs : Nat) (v i : Value) (wr : World) : Prop :=
  ∃ (k : Nat) (us : List (Value × Value)), i = .int .i64 (k : Int) ∧ k ≤ l.length ∧ wr.ownsRow w.heap.size 47 10 v l.length (flatC l us) ∧ us.length = l.length ∧ Below w.heap.size w wr ∧
    (∀ (j : Nat) (c : Chg) (q : Value × Value), l[j]? = some c → us[j]? = some q → (j < k → AO w.heap.size wr q.1 c.attrs ∧ MO w.heap.size wr q.2 c.mods) ∧ (k ≤ j → AO Bs w q.1 c.attrs ∧ MO Bs w q.2 c.mods))
theorem bcopyChanges (v : Value) (l : List Chg) (w : World) (Bs : Nat) (h : CO Bs w v l) (hl : OkC l) :
    Calls Tryz.prog 159 #[v] w fun e w' => (∃ v', e = .returned v' ∧ CO w.heap.size w' v' l) ∧ Below w.heap.size w w' := by
  obtain ⟨i0, hi0, hz0, hz1, hz2⟩ := info_parts Tryz.infoChg
  obtain ⟨us, ho, hul, hst⟩ := h
  have HL := Lib.hid hl.2
  have hn : l.length ≤ 900000 := hl.1
  clear hl
  have HST := Lib.hid hst
  have hone := flatC_one l us hul (fun j q hq => by
    have hj : j < l.length := by have := (List.getElem?_eq_some_iff.1 hq).1; omega
    obtain ⟨h1, h2⟩ := hst j l[j] q (List.getElem?_eq_getElem hj) hq
    obtain ⟨_, _, e1⟩ := h1.sl
    obtain ⟨_, _, e2⟩ := h2.sl
    rw [e1, e2]
    exact ⟨rfl, rfl⟩)
  clear hst
  have hfl : (flatC l us).length = l.length * 10 := flatC_length l us hul
  rcases id ho.2 with ⟨rfl, h0⟩ | ⟨g0, cap0, cur0, rfl, _⟩
  · have hnil : l = [] := List.length_eq_zero_iff.1 h0
    subst hnil
    go_enter Tryz.func159, Tryz.ntmps159
    go_wp2_with (at_builtin; refine wpList_append_voidB rfl (.const (.slice none 0 0)) (.tmp 4) 51 rfl w.heap.size 47 i0 10 Tryz.underlying51 hi0 (.slice none 0 0) 0 [] rfl (World.ownsRow_nil _ _ _ _) 0 rfl ?_)
    go_loopw [3] (fun i wr => i = .int .i64 0 ∧ wr = w) (fun _ _ => 0)
    case atStart => exact ⟨rfl, rfl⟩
    case round =>
      obtain ⟨rfl, rfl⟩ := hrel
      go_wp2_with fail
      go_ret
      exact ⟨⟨_, rfl, [], World.ownsRow_nil _ _ _ _, rfl, fun j c q h => by simp at h⟩, Below.refl _ _⟩
  · have HC := Lib.hid (ho.cells (g := g0) rfl)
    have HO := Lib.hid hone
    have HFL := Lib.hid hfl
    clear hone hfl ho
    go_enter Tryz.func159, Tryz.ntmps159
    go_wp2_with (at_builtin; refine wpList_append_own _ rfl (.const (.slice none 0 0)) (.tmp 4) 51 rfl w.heap.size 47 i0 (.agg #[.string ⟨#[]⟩, .string ⟨#[]⟩, .string ⟨#[]⟩, .int .i64 0, .slice none 0 0, .slice none 0 0, .string ⟨#[]⟩, .string ⟨#[]⟩, .bool false, .bool false]) 10 144 Tryz.underlying51 hi0 hz0 hz1 hz2 rfl (by decide) (.slice none 0 0) 0 [] rfl (World.ownsRow_nil _ _ _ _) ⟨g0, 0, none⟩ l.length cap0 (flatC l us) rfl HFL.out HC.out HO.out ?d3 ?d4 (Nat.le_refl _) ?_)
    case d3 => unfold maxLen; omega
    case d4 => omega
    intro v' w7 ho7 hg7 _
    have hb7 : Below w.heap.size w w7 := (Below.refl w.heap.size w).grown hg7 (Nat.le_refl _) (fun b hb => by cases hb)
    have HO7 := Lib.hid ho7
    clear ho7 hg7
    go_wp2_with fail
    go_loopw [3] (fun i wr => CcRel w l Bs v' i wr) (fun i _ => l.length - (RowKit.intOf i).toNat)
    case atStart => exact ⟨0, us, rfl, by omega, by have := HO7.out; simpa using this, hul, hb7, fun j c q h1 h2 => ⟨fun h => by omega, fun _ => HST.out j c q h1 h2⟩⟩
    case round =>
      clear HO7 hb7 HC HO HFL HST hul
      obtain ⟨k, us, rfl, hk, hown, hul, hbe, hall⟩ := hrel
      by_cases hkl : k < l.length
      · obtain ⟨c, hx⟩ : ∃ c, l[k]? = some c := ⟨l[k], List.getElem?_eq_getElem hkl⟩
        obtain ⟨q, hu⟩ : ∃ q, us[k]? = some q := ⟨us[k]'(by omega), List.getElem?_eq_getElem (by omega)⟩
        obtain ⟨vA, vM⟩ := q
        obtain ⟨hA, hM⟩ := (hall k c (vA, vM) hx hu).2 (Nat.le_refl _)
        simp only at hA hM
        have hok := HL.out c (List.mem_of_getElem? hx)
        rcases id hown.2 with ⟨_, h0⟩ | ⟨g, cap, cur, rfl, hbg, _⟩
        · omega
        have q4 := (own_cell hown ((flatC_get l us k c (vA, vM) 4 hx hu (by decide)).trans rfl)).1
        have q5 := (own_cell hown ((flatC_get l us k c (vA, vM) 5 hx hu (by decide)).trans rfl)).1
        have i1 : (k : Int) < (l.length : Int) := by omega
        have i3 : decide ((k : Int) < (l.length : Int)) = true := decide_eq_true i1
        have HX := Lib.hid hx
        have HU := Lib.hid hu
        have HALL := Lib.hid hall
        have hszr := hbe.size
        clear hx hu hall
        obtain ⟨aA, cA, eA⟩ := hA.sl
        obtain ⟨aM, cM, eM⟩ := hM.sl
        subst eA eM
        go_wp2_with fail
        refine region_anyT (S := fun w' => w'.cell? ⟨g, k * 10 + 4, none⟩ = some (.slice aA c.attrs.length cA) ∧ w'.cell? ⟨g, k * 10 + 5, none⟩ = some (.slice aM c.mods.length cM)) (st := 18) (by kernel_rfl) ?_
        have hownd : wr.drew.ownsRow w.heap.size 47 10 (.slice (some ⟨g, 0, none⟩) l.length cap) l.length (flatC l us) := hown
        have hbed : Below w.heap.size w wr.drew := hbe.drew
        have s0 : wr.drew.cell? ⟨g, k * 10 + 4, none⟩ = some (.slice aA c.attrs.length cA) ∧ wr.drew.cell? ⟨g, k * 10 + 5, none⟩ = some (.slice aM c.mods.length cM) := ⟨q4, q5⟩
        have HALLD := Lib.hid (show ∀ (j : Nat) (c : Chg) (q : Value × Value), l[j]? = some c → us[j]? = some q → (j < k → AO w.heap.size wr.drew q.1 c.attrs ∧ MO w.heap.size wr.drew q.2 c.mods) ∧ (k ≤ j → AO Bs w q.1 c.attrs ∧ MO Bs w q.2 c.mods) from HALL.out)
        have hszd : w.heap.size ≤ wr.drew.heap.size := hszr
        clear hown hbe q4 q5 HALL hszr
        generalize wr.drew = wd at hownd hbed s0 HALLD hszd ⊢
        refine anyT_free 0 (.slice (some ⟨g, 0, none⟩) l.length cap) rfl (by decide) (by kernel_rfl) (by kernel_rfl) (by kernel_rfl) (fun _ _ _ h => h) (by rfl) (fun w' => by go_simp) (.inr s0) (fun K hK => ?_); go_simp; refine hK _ _ ?_; clear hK K
        refine anyT_free 1 (.int .i64 (k : Int)) rfl (by decide) (by kernel_rfl) (by kernel_rfl) (by kernel_rfl) (fun _ _ _ h => h) (by rfl) (fun w' => by go_simp) (.inr s0) (fun K hK => ?_); go_simp; refine hK _ _ ?_; clear hK K
        refine anyT_free 2 (.slice (some ⟨g, 0, none⟩) l.length cap) rfl (by decide) (by kernel_rfl) (by kernel_rfl) (by kernel_rfl) (fun _ _ _ h => h) (by rfl) (fun w' => by go_simp) (.inr s0) (fun K hK => ?_); go_simp; refine hK _ _ ?_; clear hK K
        refine anyT_free 3 (.int .i64 (k : Int)) rfl (by decide) (by kernel_rfl) (by kernel_rfl) (by kernel_rfl) (fun _ _ _ h => h) (by rfl) (fun w' => by go_simp) (.inr s0) (fun K hK => ?_); go_simp; refine hK _ _ ?_; clear hK K
        refine anyT_free 4 (.slice (some ⟨g, 0, none⟩) l.length cap) rfl (by decide) (by kernel_rfl) (by kernel_rfl) (by kernel_rfl) (fun _ _ _ h => h) (by rfl) (fun w' => by go_simp) (.inr s0) (fun K hK => ?_); go_simp; refine hK _ _ ?_; clear hK K
        refine anyT_free 5 (.int .i64 (k : Int)) rfl (by decide) (by kernel_rfl) (by kernel_rfl) (by kernel_rfl) (fun _ _ _ h => h) (by rfl) (fun w' => by go_simp) (.inr s0) (fun K hK => ?_); go_simp; refine hK _ _ ?_; clear hK K
        refine anyT_free 6 (.pointer (some ⟨g, k * 10, none⟩)) rfl (by decide) (by kernel_rfl) (by kernel_rfl) (by kernel_rfl) (fun _ _ _ h => h) (by rfl) (fun w' => by go_simp) (.inr s0) (fun K hK => ?_); go_simp; refine hK _ _ ?_; clear hK K
        refine anyT_free 7 (.pointer (some ⟨g, k * 10 + 4, none⟩)) rfl (by decide) (by kernel_rfl) (by kernel_rfl) (by kernel_rfl) (fun _ _ _ h => h) (by rfl) (fun w' => by go_simp) (.inr s0) (fun K hK => ?_); go_simp; refine hK _ _ ?_; clear hK K
        refine anyT_free 10 (.slice (some ⟨g, 0, none⟩) l.length cap) rfl (by decide) (by kernel_rfl) (by kernel_rfl) (by kernel_rfl) (fun _ _ _ h => h) (by rfl) (fun w' => by go_simp) (.inr s0) (fun K hK => ?_); go_simp; refine hK _ _ ?_; clear hK K
        refine anyT_free 11 (.int .i64 (k : Int)) rfl (by decide) (by kernel_rfl) (by kernel_rfl) (by kernel_rfl) (fun _ _ _ h => h) (by rfl) (fun w' => by go_simp) (.inr s0) (fun K hK => ?_); go_simp; refine hK _ _ ?_; clear hK K
        refine anyT_free 12 (.pointer (some ⟨g, k * 10, none⟩)) rfl (by decide) (by kernel_rfl) (by kernel_rfl) (by kernel_rfl) (fun _ _ _ h => h) (by rfl) (fun w' => by go_simp) (.inr s0) (fun K hK => ?_); go_simp; refine hK _ _ ?_; clear hK K
        refine anyT_free 13 (.pointer (some ⟨g, k * 10 + 5, none⟩)) rfl (by decide) (by kernel_rfl) (by kernel_rfl) (by kernel_rfl) (fun _ _ _ h => h) (by rfl) (fun w' => by go_simp) (.inr s0) (fun K hK => ?_); go_simp; refine hK _ _ ?_; clear hK K
        refine anyT_take 8 (.slice aA c.attrs.length cA) rfl (by decide) rfl (by kernel_rfl) (by kernel_rfl) (by kernel_rfl) (by kernel_rfl) (fun _ _ _ h => h) (by rfl) (fun w' hS => by obtain ⟨q0, q1⟩ := hS; go_simp) (by rfl) s0 (fun K hK => ?_); go_simp; refine hK _ _ ?_; clear hK K
        refine anyT_take 14 (.slice aM c.mods.length cM) rfl (by decide) rfl (by kernel_rfl) (by kernel_rfl) (by kernel_rfl) (by kernel_rfl) (fun _ _ _ h => h) (by rfl) (fun w' hS => by obtain ⟨q0, q1⟩ := hS; go_simp) (by rfl) s0 (fun K hK => ?_); go_simp; refine hK _ _ ?_; clear hK K
        have kA := bcopyAttrs _ c.attrs wd (hA.kept (same_of_below hbed)).at hok.1
        refine anyT_one 9 (by kernel_rfl) rfl (by rfl) (fun K hK => ?_); go_simp
        refine Calls.mono (show Calls _ _ _ _ _ from kA) ?_
        rintro e w1 ⟨⟨uA, rfl, huA⟩, hb1⟩
        have s1 : w1.cell? ⟨g, k * 10 + 4, none⟩ = some (.slice aA c.attrs.length cA) ∧ w1.cell? ⟨g, k * 10 + 5, none⟩ = some (.slice aM c.mods.length cM) := ⟨(hb1.cell (lt_of_cell s0.1)).trans s0.1, (hb1.cell (lt_of_cell s0.2)).trans s0.2⟩
        have hown1 := own_below hownd hb1
        have hbe1 := below_ext hbed hb1
        have hsz1 := hb1.size
        refine hK _ _ (.inr s1) ?_; clear hK K
        have kM := bcopyMods _ c.mods w1 (hM.kept (same_of_below hbe1)).at hok.2
        refine anyT_one 15 (by kernel_rfl) rfl (by rfl) (fun K hK => ?_); go_simp
        refine Calls.mono (show Calls _ _ _ _ _ from kM) ?_
        rintro e w2 ⟨⟨uM, rfl, huM⟩, hb2⟩
        have s2 : w2.cell? ⟨g, k * 10 + 4, none⟩ = some (.slice aA c.attrs.length cA) ∧ w2.cell? ⟨g, k * 10 + 5, none⟩ = some (.slice aM c.mods.length cM) := ⟨(hb2.cell (lt_of_cell s1.1)).trans s1.1, (hb2.cell (lt_of_cell s1.2)).trans s1.2⟩
        have hown2 := own_below hown1 hb2
        have hbe2 := below_ext hbe1 hb2
        have hsz2 := hb2.size
        have huA2 := (huA.below hb2).mono (show w.heap.size ≤ wd.heap.size from hszd)
        have huM2 := huM.mono (show w.heap.size ≤ w1.heap.size by omega)
        refine hK _ _ (.inr s2) ?_; clear hK K
        have HAL2 := Lib.hid (fun (j : Nat) (c : Chg) (q : Value × Value) (h1 : l[j]? = some c) (h2 : us[j]? = some q) => (⟨fun hj => ⟨(((HALLD.out j c q h1 h2).1 hj).1.below hb1).below hb2, (((HALLD.out j c q h1 h2).1 hj).2.below hb1).below hb2⟩, (HALLD.out j c q h1 h2).2⟩ : (j < k → AO w.heap.size w2 q.1 c.attrs ∧ MO w.heap.size w2 q.2 c.mods) ∧ (k ≤ j → AO Bs w q.1 c.attrs ∧ MO Bs w q.2 c.mods)))
        have f4 : w2.frozen? ⟨g, k * 10 + 4, none⟩ = false := hown2.frozenAt _
        have f5 : w2.frozen? ⟨g, k * 10 + 5, none⟩ = false := hown2.frozenAt _
        refine anyT_one 16 (by kernel_rfl) rfl (by rfl) (fun K hK => ?_); go_simp; refine hK _ _ (.inr s2) ?_; clear hK K
        refine anyT_one 17 (by kernel_rfl) rfl (by rfl) (fun K hK => ?_); go_simp; refine hK _ _ (.inr s2) ?_; clear hK K
        obtain ⟨t4, t5⟩ := s2
        obtain ⟨bA, dA, eA⟩ := huA2.sl
        obtain ⟨bM, dM, eM⟩ := huM2.sl
        subst eA eM
        clear kA kM huA huM hb1 hb2 s0 s1 hownd hown1 hbed hbe1 HALLD
        refine anyT_one 18 (by kernel_rfl) rfl (by rfl) (fun K hK => ?_); go_simp; refine hK _ _ (.inl (by rfl)) ?_; clear hK K
        obtain ⟨hown3, hg3⟩ := hown2.stored (k * 10 + 4) (.slice bA c.attrs.length dA)
        have t5' : (w2.setCell ⟨g, k * 10 + 4, none⟩ (.slice bA c.attrs.length dA)).cell? ⟨g, k * 10 + 5, none⟩ = some (.slice aM c.mods.length cM) := by
          have := (own_cell hown3 (show ((flatC l us).set (k * 10 + 4) (.slice bA c.attrs.length dA))[k * 10 + 5]? = some (.slice aM c.mods.length cM) by
            rw [List.getElem?_set_ne (by omega)]
            exact (flatC_get l us k c _ 5 HX.out HU.out (by decide)).trans rfl)).1
          exact this
        have f5' : (w2.setCell ⟨g, k * 10 + 4, none⟩ (.slice bA c.attrs.length dA)).frozen? ⟨g, k * 10 + 5, none⟩ = false := hown3.frozenAt _
        have hb3 : Below w.heap.size w (w2.setCell ⟨g, k * 10 + 4, none⟩ (.slice bA c.attrs.length dA)) := hbe2.setCell (p := ⟨g, k * 10 + 4, none⟩) hbg _
        have HAL3 := Lib.hid (fun (j : Nat) (c' : Chg) (q : Value × Value) (h1 : l[j]? = some c') (h2 : us[j]? = some q) => (⟨fun hj => ⟨((HAL2.out j c' q h1 h2).1 hj).1.farC hown2 hg3, ((HAL2.out j c' q h1 h2).1 hj).2.farC hown2 hg3⟩, (HAL2.out j c' q h1 h2).2⟩ : (j < k → AO w.heap.size (w2.setCell ⟨g, k * 10 + 4, none⟩ (.slice bA c.attrs.length dA)) q.1 c'.attrs ∧ MO w.heap.size (w2.setCell ⟨g, k * 10 + 4, none⟩ (.slice bA c.attrs.length dA)) q.2 c'.mods) ∧ (k ≤ j → AO Bs w q.1 c'.attrs ∧ MO Bs w q.2 c'.mods)))
        have huA3 := huA2.farC hown2 hg3
        have huM3 := huM2.farC hown2 hg3
        clear t4 t5 f4 f5 huA2 huM2 hown2 hg3 HAL2 hbe2
        generalize w2.setCell ⟨g, k * 10 + 4, none⟩ (.slice bA c.attrs.length dA) = w3 at hown3 t5' f5' hb3 HAL3 huA3 huM3 ⊢
        refine anyT_one 19 (by kernel_rfl) rfl (by rfl) (fun K hK => ?_); go_simp; refine hK _ _ (.inl (by rfl)) ?_; clear hK K
        refine anyT_one 20 (by kernel_rfl) rfl (by rfl) (fun K hK => ?_); go_simp; refine hK _ _ (.inl (by rfl)) ?_; clear hK K
        refine anyT_one 21 (by kernel_rfl) rfl (by rfl) (fun K hK => ?_); go_simp; refine hK _ _ (.inl (by rfl)) ?_; clear hK K
        obtain ⟨hown4, hg4⟩ := hown3.stored (k * 10 + 5) (.slice bM c.mods.length dM)
        rw [flatC_put l us k _ _ _ HU.out hul] at hown4
        have hb4 : Below w.heap.size w (w3.setCell ⟨g, k * 10 + 5, none⟩ (.slice bM c.mods.length dM)) := hb3.setCell (p := ⟨g, k * 10 + 5, none⟩) hbg _
        have HAL4 := Lib.hid (show ∀ (j : Nat) (c' : Chg) (q : Value × Value), l[j]? = some c' → (us.set k (.slice bA c.attrs.length dA, .slice bM c.mods.length dM))[j]? = some q → (j < k + 1 → AO w.heap.size (w3.setCell ⟨g, k * 10 + 5, none⟩ (.slice bM c.mods.length dM)) q.1 c'.attrs ∧ MO w.heap.size (w3.setCell ⟨g, k * 10 + 5, none⟩ (.slice bM c.mods.length dM)) q.2 c'.mods) ∧ (k + 1 ≤ j → AO Bs w q.1 c'.attrs ∧ MO Bs w q.2 c'.mods) from fun j c' q h1 h2 => by
          by_cases hjk : j = k
          · subst hjk
            rw [List.getElem?_set_self (by omega)] at h2
            cases h2
            have hcc := HX.out
            rw [h1] at hcc
            cases hcc
            exact ⟨fun _ => ⟨huA3.farC hown3 hg4, huM3.farC hown3 hg4⟩, fun h => by omega⟩
          · rw [List.getElem?_set_ne (fun e => hjk e.symm)] at h2
            obtain ⟨e1, e2⟩ := HAL3.out j c' q h1 h2
            exact ⟨fun h => ⟨(e1 (by omega)).1.farC hown3 hg4, (e1 (by omega)).2.farC hown3 hg4⟩, fun h => e2 (by omega)⟩)
        clear t5' f5' hown3 hg4 HAL3 hb3 huA3 huM3
        generalize w3.setCell ⟨g, k * 10 + 5, none⟩ (.slice bM c.mods.length dM) = w4 at hown4 hb4 HAL4 ⊢
        refine anyT_done (by kernel_rfl) ?_ _
        go_wp2_with fail
        go_roundw
        case rel => exact ⟨k + 1, _, by go_num, by omega, hown4, by simp [hul], hb4, HAL4.out⟩
        case measure => simp [RowKit.intOf]; omega
      · obtain rfl : k = l.length := by omega
        have i3 : decide (((l.length : Nat) : Int) < (l.length : Int)) = false := decide_eq_false (by omega)
        have HFIN := Lib.hid (show CO w.heap.size wr v' l from ⟨us, hown, hul, fun j c q h1 h2 => (hall j c q h1 h2).1 (List.getElem?_eq_some_iff.1 h1).1⟩)
        obtain ⟨a9, c9, e9⟩ := gl_of hown
        subst e9
        clear hall hown
        go_wp2_with fail
        go_ret
        exact ⟨⟨_, rfl, HFIN.out⟩, hbe⟩
end Go.Proofs.YtegigcneimjimaaGreatDoor
