/- octet.Text, octet.PutRune and prep.mapped: what each returns. -/
import Derived.Test.YtlbfmapbpbpipaaDoorPrepS
namespace Go.Proofs.YtlbfmapbpbpipaaDoor
open Go.RowKit Go.Lib

set_option maxHeartbeats 400000 in
theorem PutRune_any (r : Int) (w : World) :
    Calls Tryd.prog 33 #[.int .i32 r] w fun e w' => e = .returned (.tuple #[.string ⟨(putR r).toArray⟩, .int .i64 (if Lib.validRune r then 0 else 10)]) ∧ w = w' := by
  have c1 := Tryd.utf8_ValidRune r w
  unfold putR encR
  obtain ⟨b1, hb1⟩ : ∃ b1, Lib.validRune r = b1 := ⟨_, rfl⟩
  rw [hb1] at c1 ⊢
  clear hb1
  cases b1
  · go_enter Tryd.func33, Tryd.ntmps33
    go_wp2_with (go_at_call 48; refine c1.mono ?_; rintro e w' ⟨rfl, rfl⟩)
    go_ret2
    exact ⟨rfl, rfl⟩
  · go_enter Tryd.func33, Tryd.ntmps33
    go_wp2_with (go_at_call 48; refine c1.mono ?_; rintro e w' ⟨rfl, rfl⟩)
    go_ret2
    exact ⟨rfl, rfl⟩

set_option maxHeartbeats 400000 in
theorem Text_any (s : ByteArray) (w : World) (hs : s.size ≤ 9223372036854775807) (hE : Env w) :
    Calls Tryd.prog 16 #[.string s] w fun e w' => e = .returned (.bool (validD s.data.toList)) ∧ Below w.heap.size w w' := by
  have c1 := Tryd.utf8_ValidString s w hs hE.tabs
  clear hE
  go_enter Tryd.func16, Tryd.ntmps16
  go_wp2_with (go_at_call 29; refine c1.mono ?_; rintro e w' ⟨rfl, hb⟩)
  go_ret
  exact ⟨rfl, hb⟩

theorem own_iterAt {w : World} {K e n : Nat} {v : Value} {xs : List Value} (h : w.ownsRow (K + 1) e 1 v n xs) (s : ByteArray) (pos : Nat) : (w.iterAt K s pos).ownsRow (K + 1) e 1 v n xs := by
  refine ⟨h.1, ?_⟩
  rcases h.2 with hn | ⟨g, cap, cur, rfl, hb, hg, rest⟩
  · exact .inl hn
  · exact .inr ⟨g, cap, cur, rfl, hb, by rw [iterAt_other _ _ _ _ _ (by omega)]; exact hg, rest⟩

/-- What holds at every round's head. -/
def MRel (s : ByteArray) (fold : Bool) (K : Nat) (w : World) (ANS : Option (List UInt8)) (v : Value) (wr : World) : Prop :=
  ∃ (pos : Nat) (b : List UInt8), wr.heap[K]? = some (.stringIter s pos) ∧ pos ≤ s.size ∧ wr.ownsRow (K + 1) 5 1 v b.length (bV b) ∧ b.length ≤ 4 * pos ∧ Below w.heap.size w wr ∧ mrun fold b (runes (s.data.toList.drop pos)) = ANS

theorem Tryd.info5 : (Tryd.prog.info? 5).map (fun i => (i.zero, i.size, i.bytes)) = some (some (.int .u8 0), 1, 1) := by kernel_rfl

set_option maxHeartbeats 1000000 in
theorem mapped_any (s : ByteArray) (fold : Bool) (w : World) (hs : s.size ≤ 1099511627776) (hE : Env w) :
    Calls Tryd.prog 22 #[.string s, .bool fold] w fun e w' => e = .returned (strOk (mappedL s.data.toList fold)) ∧ Below w.heap.size w w' := by
  have c1 := Text_any s w (by omega) hE
  clear hE
  unfold mappedL
  generalize hV : validD s.data.toList = V at *
  have HV := Lib.hid hV
  clear hV
  cases V
  · go_enter Tryd.func22, Tryd.ntmps22
    go_wp2_with (go_at_call 16; refine c1.mono ?_; rintro e w' ⟨rfl, hb⟩)
    go_ret2
    exact ⟨rfl, hb⟩
  · rw [if_pos rfl]
    generalize hA : mrun fold [] (runes s.data.toList) = ANS
    have HA := Lib.hid hA
    clear hA
    go_enter Tryd.func22, Tryd.ntmps22
    go_wp2_with (go_at_call 16; refine c1.mono ?_; rintro e w1 ⟨rfl, hb1⟩)
    go_loopw [6] (fun v wr => MRel s fold w1.heap.size w ANS v wr) (fun _ wr => s.size - wr.iterPos w1.heap.size)
    case atStart =>
      refine ⟨0, [], World.iter_heap _ _ _, Nat.zero_le _, World.ownsRow_nil _ _ _ _, by simp, ?_, by simpa using HA.out⟩
      exact hb1.alloc hb1.size _
    case round =>
      obtain ⟨pos, b, hk, hpos, hown, hbl, hbe, hrun⟩ := hrel
      have HR := Lib.hid hrun
      clear hrun HA HV c1
      have hKw : w.heap.size ≤ w1.heap.size := hb1.size
      clear hb1
      obtain ⟨K, hK⟩ : ∃ K, w1.heap.size = K := ⟨_, rfl⟩
      rw [hK] at hk hown hKw ⊢
      clear hK
      by_cases hp : pos < s.size
      · obtain ⟨d, hd⟩ : ∃ d, Utf8.decode s pos = d := ⟨_, rfl⟩
        have hdl : decodeL (s.data.toList.drop pos) = d := by rw [decodeL_drop, hd]
        have hne : s.data.toList.drop pos ≠ [] := by
          intro h0
          have := congrArg List.length h0
          rw [List.length_drop, ← Lib.size_eq] at this
          simp at this
          omega
        have hdp := decode_pos _ hne
        rw [hdl, List.length_drop, ← Lib.size_eq] at hdp
        have hr2 := HR.out
        rw [runes_step _ hne, hdl, List.drop_drop] at hr2
        simp only [mrun] at hr2
        clear HR hne hdl
        have hnx : ∀ ty, (Instr.next (.pointer (some ⟨K, 0, none⟩)) true ty).run Tryd.prog wr = _ := fun ty => run_next_any_at wr K s pos ty hk hp
        rw [hd] at hnx
        have hk2 := iterAt_heap wr K s pos (pos + d.2) hk
        have hbe2 := below_iterAt hbe hKw s (pos + d.2)
        have hown2 := own_iterAt hown s (pos + d.2)
        obtain ⟨w2, hw2⟩ : ∃ w2, wr.iterAt K s (pos + d.2) = w2 := ⟨_, rfl⟩
        rw [hw2] at hnx hk2 hbe2 hown2
        clear hw2 hown hbe hd
        obtain ⟨r, wd⟩ := d
        simp only at *
        have hp2 : pos < pos + wd := by omega
        have hp3 : pos + wd ≤ s.size := by omega
        have hb2 : b.length + 4 ≤ 4 * (pos + wd) := by omega
        clear hdp
        generalize pos + wd = pos2 at hnx hk2 hbe2 hown2 hp2 hp3 hb2 hr2
        have cM := Map_any (r : Int) w2
        have hM : wr.iterPos K = pos := iterPos_of hk
        clear hk
        by_cases hbad : mapBad r = true
        · rw [if_pos hbad] at hr2
          subst hr2
          rw [hbad] at cM
          clear hbad
          go_wp2_with (go_at_call 9; refine cM.mono ?_; rintro e w' ⟨rfl, rfl⟩)
          go_ret2
          exact ⟨rfl, hbe2⟩
        · rw [if_neg hbad] at hr2
          have HR := Lib.hid hr2
          rw [Bool.not_eq_true] at hbad
          rw [hbad] at cM
          clear hr2 hbad
          by_cases hst : mapStays r = true
          · rw [hst] at cM
            have e1 := HR.out
            rw [mstep, if_neg (by rw [hst]; simp)] at e1
            clear HR hst
            obtain ⟨mr, hmr⟩ : ∃ mr, mapR (r : Int) = mr := ⟨_, rfl⟩
            rw [hmr] at cM e1
            have HM := Lib.hid hM
            clear hmr hM
            have cF := Fold_any mr w2
            by_cases hdup : mr = 32 ∧ b.getLast? = some 32
            · rw [if_pos hdup] at e1
              have HR2 := Lib.hid e1
              obtain ⟨h32, hlast⟩ := hdup
              have h32b : (mr == 32) = true := by rw [h32]; rfl
              have hb0 : b ≠ [] := by rintro rfl; simp at hlast
              have hbl0 : 0 < b.length := by cases b <;> simp_all
              clear e1 h32
              have hcell : ∀ g, u6.ownBlock = some g → w2.cell? ⟨g, b.length - 1, none⟩ = some (.int .u8 32) := by
                intro g hg
                have := hown2.cells hg (b.length - 1) (.int .u8 32) (by
                  rw [bV_get b _ (by omega)]
                  rw [List.getLast?_eq_getElem?, List.getElem?_eq_getElem (by omega)] at hlast
                  rw [Option.some.inj hlast]
                  rfl)
                rw [Addr.add_lit] at this
                simpa using this
              clear hlast hb0
              obtain ⟨g, cap, hv⟩ : ∃ g cap, u6 = .slice (some ⟨g, 0, none⟩) b.length cap := by
                rcases hown2.2 with ⟨_, hn⟩ | ⟨g, cap, cur, hv, _⟩
                · omega
                · exact ⟨g, cap, hv⟩
              subst hv
              have hc := hcell g rfl
              clear hcell
              have hbl1 : b.length ≤ 9223372036854775807 := by omega
              go_wp2_with (go_at_call 9; refine cM.mono ?_; rintro e w' ⟨rfl, rfl⟩)
              go_roundw
              case rel => exact ⟨pos2, b, hk2, hp3, hown2, by omega, hbe2, HR2.out⟩
              case measure => rw [iterPos_of hk2, HM.out]; omega
            · rw [if_neg hdup] at e1
              obtain ⟨x, hx⟩ : ∃ x, (if fold then foldR mr else mr) = x := ⟨_, rfl⟩
              rw [hx] at e1
              have HR2 := Lib.hid e1
              have cP := PutRune_any x w2
              have hxl := putR_length x
              obtain ⟨px, hpx⟩ : ∃ px, putR x = px := ⟨_, rfl⟩
              rw [hpx] at HR2 cP hxl
              have hsz : (⟨px.toArray⟩ : ByteArray).size ≤ 4 := by rw [Lib.size_mk]; exact hxl
              have hKs : K + 1 ≤ w2.heap.size := (Array.getElem?_eq_some_iff.1 hk2).1
              have h63 : b.length + (⟨px.toArray⟩ : ByteArray).size ≤ maxLen := by unfold maxLen; omega
              have hby : b.length + (⟨px.toArray⟩ : ByteArray).size ≤ 140737488355328 := by omega
              obtain ⟨i0, hi, hz0, hz1, hz2⟩ := info_parts Tryd.info5
              have hcase : (mr == 32) = false ∨ ((mr == 32) = true ∧ ∃ A cap, u6 = .slice A b.length cap ∧ b.length ≤ 0) ∨ ((mr == 32) = true ∧ ∃ g cap c, u6 = .slice (some ⟨g, 0, none⟩) b.length cap ∧ 0 < b.length ∧ w2.cell? ⟨g, b.length - 1, none⟩ = some (.int .u8 c) ∧ (c == 32) = false) := by
                by_cases h32 : mr = 32
                · right
                  have h32b : (mr == 32) = true := by rw [h32]; rfl
                  rcases hown2.2 with ⟨_, hn⟩ | ⟨g, cap, cur, hv, _⟩
                  · refine .inl ⟨h32b, none, 0, ?_, by omega⟩
                    rename_i hv
                    rw [hv, hn]
                  · by_cases hn : b.length = 0
                    · exact .inl ⟨h32b, _, _, hv, by omega⟩
                    · refine .inr ⟨h32b, g, cap, ((b[b.length - 1]'(by omega)).toNat : Int), hv, by omega, ?_, ?_⟩
                      · have := hown2.cells (g := g) (by rw [hv]; rfl) (b.length - 1) _ (bV_get b (b.length - 1) (by omega))
                        rw [Addr.add_lit] at this
                        simpa using this
                      · rw [beq_eq_false_iff_ne]
                        intro hc
                        apply hdup
                        refine ⟨h32, ?_⟩
                        rw [List.getLast?_eq_getElem?, List.getElem?_eq_getElem (by omega)]
                        congr 1
                        apply UInt8.toNat_inj.1
                        have : (32 : UInt8).toNat = 32 := rfl
                        omega
                · exact .inl (beq_eq_false_iff_ne.2 h32)
              clear hdup hxl e1
              have HX := Lib.hid hx
              clear hx hpx
              have fin : ∀ v' w3, w3.ownsRow (K + 1) 5 1 v' (b.length + (⟨px.toArray⟩ : ByteArray).size) (bV b ++ strCells ⟨px.toArray⟩) → w2.grownBy w3 u6.ownBlock → MRel s fold K w ANS v' w3 ∧ w3.iterPos K = pos2 := by
                intro v' w3 ho hg
                have hrow : ∀ k, u6.ownBlock = some k → K + 1 ≤ k := fun k hk => (hown2.lt k hk).1
                have hk3 : w3.heap[K]? = some (.stringIter s pos2) := by
                  rw [hg.block K (by omega) (fun h => by have := hrow K h.symm; omega)]
                  exact hk2
                refine ⟨⟨pos2, b ++ px, hk3, hp3, ?_, ?_, hbe2.grown hg (by omega) (fun k hk => by have := hrow k hk; omega), HR2.out⟩, iterPos_of hk3⟩
                · rw [bV_append, List.length_append]
                  have e := ho
                  rw [Lib.size_mk, strCells_bV] at e
                  exact e
                · rw [List.length_append]
                  rw [Lib.size_mk] at hsz
                  omega
              obtain ⟨en, hen⟩ : ∃ en : Int, (if Lib.validRune x then 0 else 10) = en := ⟨_, rfl⟩
              rw [hen] at cP
              have Hen := Lib.hid hen
              clear hen
              have FIN := Lib.hid fin
              clear fin HR2
              have hbl1 : b.length ≤ 9223372036854775807 := by omega
              have hxx := HX.out
              clear HX
              rcases hcase with h32 | ⟨h32, A, cap, hv, hn⟩ | ⟨h32, g, cap, c, hv, hb0, hc, hc32⟩
              · cases fold
                · simp only [Bool.false_eq_true, if_false] at hxx
                  subst hxx
                  clear cF
                  go_wp2_with (first | (at_builtin; refine wpList_append_own_string w2 rfl (.tmp 58) (.tmp 59) 50 9 rfl (K + 1) 5 i0 Tryd.underlying50 Tryd.underlying9 hi hz0 hz1 hz2 _ b.length (bV b) rfl hown2 ⟨px.toArray⟩ rfl h63 hby hKs ?_; intro v' w3 ho3 hg3 _) | (go_at_call 9; refine cM.mono ?_; rintro e w' ⟨rfl, rfl⟩) | (go_at_call 12; refine cF.mono ?_; rintro e w' ⟨rfl, rfl⟩) | (go_at_call 33; refine cP.mono ?_; rintro e w' ⟨rfl, rfl⟩))
                  go_roundw
                  case rel => exact (FIN.out _ _ ho3 hg3).1
                  case measure => rw [(FIN.out _ _ ho3 hg3).2, HM.out]; omega
                · simp only [if_true] at hxx
                  subst hxx
                  go_wp2_with (first | (at_builtin; refine wpList_append_own_string w2 rfl (.tmp 58) (.tmp 59) 50 9 rfl (K + 1) 5 i0 Tryd.underlying50 Tryd.underlying9 hi hz0 hz1 hz2 _ b.length (bV b) rfl hown2 ⟨px.toArray⟩ rfl h63 hby hKs ?_; intro v' w3 ho3 hg3 _) | (go_at_call 9; refine cM.mono ?_; rintro e w' ⟨rfl, rfl⟩) | (go_at_call 12; refine cF.mono ?_; rintro e w' ⟨rfl, rfl⟩) | (go_at_call 33; refine cP.mono ?_; rintro e w' ⟨rfl, rfl⟩))
                  go_roundw
                  case rel => exact (FIN.out _ _ ho3 hg3).1
                  case measure => rw [(FIN.out _ _ ho3 hg3).2, HM.out]; omega
              · subst hv
                cases fold
                · simp only [Bool.false_eq_true, if_false] at hxx
                  subst hxx
                  clear cF
                  go_wp2_with (first | (at_builtin; refine wpList_append_own_string w2 rfl (.tmp 58) (.tmp 59) 50 9 rfl (K + 1) 5 i0 Tryd.underlying50 Tryd.underlying9 hi hz0 hz1 hz2 _ b.length (bV b) rfl hown2 ⟨px.toArray⟩ rfl h63 hby hKs ?_; intro v' w3 ho3 hg3 _) | (go_at_call 9; refine cM.mono ?_; rintro e w' ⟨rfl, rfl⟩) | (go_at_call 12; refine cF.mono ?_; rintro e w' ⟨rfl, rfl⟩) | (go_at_call 33; refine cP.mono ?_; rintro e w' ⟨rfl, rfl⟩))
                  go_roundw
                  case rel => exact (FIN.out _ _ ho3 hg3).1
                  case measure => rw [(FIN.out _ _ ho3 hg3).2, HM.out]; omega
                · simp only [if_true] at hxx
                  subst hxx
                  go_wp2_with (first | (at_builtin; refine wpList_append_own_string w2 rfl (.tmp 58) (.tmp 59) 50 9 rfl (K + 1) 5 i0 Tryd.underlying50 Tryd.underlying9 hi hz0 hz1 hz2 _ b.length (bV b) rfl hown2 ⟨px.toArray⟩ rfl h63 hby hKs ?_; intro v' w3 ho3 hg3 _) | (go_at_call 9; refine cM.mono ?_; rintro e w' ⟨rfl, rfl⟩) | (go_at_call 12; refine cF.mono ?_; rintro e w' ⟨rfl, rfl⟩) | (go_at_call 33; refine cP.mono ?_; rintro e w' ⟨rfl, rfl⟩))
                  go_roundw
                  case rel => exact (FIN.out _ _ ho3 hg3).1
                  case measure => rw [(FIN.out _ _ ho3 hg3).2, HM.out]; omega
              · subst hv
                cases fold
                · simp only [Bool.false_eq_true, if_false] at hxx
                  subst hxx
                  clear cF
                  go_wp2_with (first | (at_builtin; refine wpList_append_own_string w2 rfl (.tmp 58) (.tmp 59) 50 9 rfl (K + 1) 5 i0 Tryd.underlying50 Tryd.underlying9 hi hz0 hz1 hz2 _ b.length (bV b) rfl hown2 ⟨px.toArray⟩ rfl h63 hby hKs ?_; intro v' w3 ho3 hg3 _) | (go_at_call 9; refine cM.mono ?_; rintro e w' ⟨rfl, rfl⟩) | (go_at_call 12; refine cF.mono ?_; rintro e w' ⟨rfl, rfl⟩) | (go_at_call 33; refine cP.mono ?_; rintro e w' ⟨rfl, rfl⟩))
                  go_roundw
                  case rel => exact (FIN.out _ _ ho3 hg3).1
                  case measure => rw [(FIN.out _ _ ho3 hg3).2, HM.out]; omega
                · simp only [if_true] at hxx
                  subst hxx
                  go_wp2_with (first | (at_builtin; refine wpList_append_own_string w2 rfl (.tmp 58) (.tmp 59) 50 9 rfl (K + 1) 5 i0 Tryd.underlying50 Tryd.underlying9 hi hz0 hz1 hz2 _ b.length (bV b) rfl hown2 ⟨px.toArray⟩ rfl h63 hby hKs ?_; intro v' w3 ho3 hg3 _) | (go_at_call 9; refine cM.mono ?_; rintro e w' ⟨rfl, rfl⟩) | (go_at_call 12; refine cF.mono ?_; rintro e w' ⟨rfl, rfl⟩) | (go_at_call 33; refine cP.mono ?_; rintro e w' ⟨rfl, rfl⟩))
                  go_roundw
                  case rel => exact (FIN.out _ _ ho3 hg3).1
                  case measure => rw [(FIN.out _ _ ho3 hg3).2, HM.out]; omega
          · rw [Bool.not_eq_true] at hst
            have e1 := HR.out
            rw [mstep, if_pos hst] at e1
            have HR2 := Lib.hid e1
            rw [hst] at cM
            clear hst e1 HR
            have HM := Lib.hid hM
            clear hM
            go_wp2_with (go_at_call 9; refine cM.mono ?_; rintro e w' ⟨rfl, rfl⟩)
            go_roundw
            case rel => exact ⟨pos2, b, hk2, hp3, hown2, by omega, hbe2, HR2.out⟩
            case measure => rw [iterPos_of hk2, HM.out]; omega
      · have hnx : ∀ ty, (Instr.next (.pointer (some ⟨K, 0, none⟩)) true ty).run Tryd.prog wr = _ := fun ty => run_next_end_at wr K s pos ty hk hp
        have hcv := run_str_own (P := Tryd.prog) wr 50 9 5 (K + 1) u6 b Tryd.underlying50 Tryd.underlying5 Tryd.underlying9 hown
        go_wp2
        go_ret2
        have e1 := HR.out
        rw [List.drop_of_length_le (by rw [← Lib.size_eq]; omega)] at e1
        subst e1
        exact ⟨rfl, hbe⟩
end Go.Proofs.YtlbfmapbpbpipaaDoor
