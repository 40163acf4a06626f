/- RwC. -/
import Derived.Test.YtegigcneimjimaaGreatDoorU18
namespace Go.Proofs.YtegigcneimjimaaGreatDoor
open Go.RowKit Go.Lib
set_option maxRecDepth 100000
set_option maxHeartbeats 16000000
def RecP (w : World) (c : Chg) (e : Ending) (w' : World) : Prop :=
  (∃ vA vM, e = .returned (.agg (chgA c vA vM)) ∧ AO w.heap.size w' vA c.attrs ∧ MO w.heap.size w' vM c.mods) ∧ Below w.heap.size w w'
theorem rec_any (v : Value) (l : List (List UInt8)) (w : World) (h : StrsAt w v l) (hl : l.length ≤ 1000000) (hls : ∀ s ∈ l, s.length ≤ 1000000) :
    Calls Tryz.prog 34 #[v] w (RecP w (recF l)) := by
  obtain ⟨PR, hPR⟩ : ∃ P, RecP w (recF l) = P := ⟨_, rfl⟩
  rw [hPR]
  have HPR := Lib.hid hPR
  clear hPR
  obtain ⟨i0, hi0, hz0, hz1, hz2⟩ := info_parts Tryz.infoTr
  have HLS := Lib.hid hls
  have HH := Lib.hid h
  clear hls
  obtain ⟨al, cl, rfl, hcl, hlr⟩ := h
  have hb1 : Below w.heap.size w (w.alloc (.cells zeroA 47)) := (Below.refl _ _).alloc (Nat.le_refl _) _
  have hb2 : Below w.heap.size w ((w.alloc (.cells zeroA 47)).alloc (.cells zeroA 47)) := hb1.alloc (by simp) _
  have hk1 : ((w.alloc (.cells zeroA 47)).alloc (.cells zeroA 47)).heap[w.heap.size]? = some (.cells zeroA 47 (0, 0)) := (Lib.alloc_old _ _ _ (by simp)).trans (alloc_at _ _ _ rfl)
  have hk2 : ((w.alloc (.cells zeroA 47)).alloc (.cells zeroA 47)).heap[w.heap.size + 1]? = some (.cells zeroA 47 (0, 0)) := alloc_at _ _ _ (by simp)
  have hrs : RS w.heap.size w #[.string ⟨#[]⟩, .string ⟨#[]⟩, .string ⟨#[]⟩, .int .i64 0, .slice none 0 0, .slice none 0 0, .string ⟨#[]⟩, .string ⟨#[]⟩, .bool false, .bool false] (.slice none 0 0) 0 [] ((w.alloc (.cells zeroA 47)).alloc (.cells zeroA 47)) := ⟨hk2, hk1, World.ownsRow_nil _ _ _ _, hb2⟩
  clear hb1 hb2 hk1 hk2
  go_enter Tryz.func34, Tryz.ntmps34
  go_wp2_with fail
  unfold zeroA at hrs
  generalize (w.alloc (.cells #[.string ⟨#[]⟩, .string ⟨#[]⟩, .string ⟨#[]⟩, .int .i64 0, .slice none 0 0, .slice none 0 0, .string ⟨#[]⟩, .string ⟨#[]⟩, .bool false, .bool false] 47)).alloc (.cells #[.string ⟨#[]⟩, .string ⟨#[]⟩, .string ⟨#[]⟩, .int .i64 0, .slice none 0 0, .slice none 0 0, .string ⟨#[]⟩, .string ⟨#[]⟩, .bool false, .bool false] 47) = w1 at hrs ⊢
  generalize hN : w.heap.size = N at hrs ⊢
  have HNN := Lib.hid hN
  clear hN
  go_loopw [4, 5] (fun vp i wr => ∃ k : Nat, i = .int .i64 (k : Int) ∧ k ≤ l.length ∧ RS N w #[.string ⟨#[]⟩, .string ⟨#[]⟩, .string ⟨#[]⟩, .int .i64 0, .slice none 0 0, .slice none 0 0, .string ⟨#[]⟩, .string ⟨#[]⟩, .bool false, .bool false] vp k ((l.map splitR).take k) wr) (fun _ i _ => l.length - (RowKit.intOf i).toNat)
  case atStart => exact ⟨0, rfl, by omega, hrs⟩
  case round =>
    clear hrs
    obtain ⟨k, rfl, hk, hrs⟩ := hrel
    by_cases hkl : k < l.length
    · obtain ⟨s, hs⟩ : ∃ s, l[k]? = some s := ⟨l[k], List.getElem?_eq_getElem hkl⟩
      have hne : l ≠ [] := by intro e; rw [e] at hkl; simp at hkl
      obtain ⟨g, o, rfl, hcc⟩ := hlr hne
      have hc0 := hcc k s hs
      have hc1 : wr.cell? ⟨g, o + k, none⟩ = some (.string ⟨s.toArray⟩) := by
        have hlt := lt_of_cell hc0
        rw [← HNN.out] at hrs
        exact (hrs.hb.cell hlt).trans hc0
      have ksp := split_any s wr (Nat.le_trans (HLS.out s (List.mem_of_getElem? hs)) (by decide))
      have i1 : (k : Int) < (l.length : Int) := by omega
      have i3 : decide ((k : Int) < (l.length : Int)) = true := decide_eq_true i1
      obtain ⟨p, hp⟩ : ∃ p, splitR s = p := ⟨_, rfl⟩
      rw [hp] at ksp
      have htk : (l.map splitR).take (k + 1) = (l.map splitR).take k ++ [p] := by
        rw [List.take_add_one, List.getElem?_map, hs]
        simp [hp]
      have HTK := Lib.hid htk
      clear htk hp hs hcc hc0 hlr hne
      go_wp2_with (first | (go_at_call 147; refine Calls.mono (show Calls _ _ _ _ _ from ksp) ?_; rintro e w4 ⟨rfl, hb4⟩; have hrs4 := hrs.below hb4) | (at_builtin; refine wpList_append_own_at _ rfl (.tmp 21) (.tmp 27) 185 rfl (N + 2) 187 i0 (.agg #[.string ⟨#[]⟩, .string ⟨#[]⟩, .bool false]) 3 40 Tryz.underlying185 hi0 hz0 hz1 hz2 rfl (by decide) u4 k (flat3 ((l.map splitR).take k)) rfl (hrs4.hp.alloc _) ⟨w4.heap.size, 0, none⟩ 1 1 [.string ⟨p.1.toArray⟩, .string ⟨p.2.1.toArray⟩, .bool p.2.2] rfl rfl ?d1 ?d2 ?d3 ?d4 ?d5 ?_))
      case d1 => exact cells_new w4 [.string ⟨p.1.toArray⟩, .string ⟨p.2.1.toArray⟩, .bool p.2.2] 187
      case d2 => intro u hu; simp at hu; rcases hu with rfl | rfl | rfl <;> rfl
      case d3 => unfold maxLen; omega
      case d4 => omega
      case d5 => have := hrs4.size; simp; omega
      intro v' w7 ho7 hg7 _ hat7
      have hrs7 : RS N w #[.string ⟨#[]⟩, .string ⟨#[]⟩, .string ⟨#[]⟩, .int .i64 0, .slice none 0 0, .slice none 0 0, .string ⟨#[]⟩, .string ⟨#[]⟩, .bool false, .bool false] v' (k + 1) ((l.map splitR).take (k + 1)) w7 := (hrs4.below ((Below.refl _ _).alloc (Nat.le_refl _) _)).push hg7 (by rw [HTK.out, flat3_snoc]; exact ho7)
      go_wp2_with fail
      go_roundw
      case rel => exact ⟨k + 1, by go_num, by omega, hrs7⟩
      case measure => simp [RowKit.intOf]; omega
    · obtain rfl : k = l.length := by omega
      have i3 : decide (((l.length : Nat) : Int) < (l.length : Int)) = false := decide_eq_false (by omega)
      rw [List.take_of_length_le (by rw [List.length_map]; exact Nat.le_refl _)] at hrs
      obtain ⟨ap, cp, hvp⟩ := gl_of hrs.hp
      subst hvp
      by_cases h4 : l.length < 4
      · have i4 : decide ((l.length : Int) < 4) = true := decide_eq_true (by omega)
        have hrf : recF l = ⟨[], [], [], 0, [], [], [], [], false, false⟩ := by rw [recF, if_pos h4]
        have HRF := Lib.hid hrf
        have hfin := hrs.hb.trans (put10_below wr N (.string ⟨#[]⟩) (.string ⟨#[]⟩) (.string ⟨#[]⟩) (.int .i64 0) (.slice none 0 0) (.slice none 0 0) (.string ⟨#[]⟩) (.string ⟨#[]⟩) (.bool false) (.bool false))
        obtain ⟨⟨c0, c1, c2, c3, c4, c5, c6, c7, c8, c9⟩, _⟩ := ten_cells hrs.hc
        obtain ⟨⟨n0, n1, n2, n3, n4, n5, n6, n7, n8, n9⟩, z0, z1, z2, z3, z4, z5, z6, z7, z8, z9⟩ := ten_cells hrs.hr
        clear hrf hlr hrs
        go_wp2_with fail
        refine bodyPost_ret (v := .agg (chgA ⟨[], [], [], 0, [], [], [], [], false, false⟩ (.slice none 0 0) (.slice none 0 0))) (by simp [results, Tryz.results34, go_sem, n0, n1, n2, n3, n4, n5, n6, n7, n8, n9, chgA]) rfl ?_
        rw [← HPR.out]
        unfold RecP
        rw [HRF.out, HNN.out]
        exact ⟨⟨_, _, rfl, ⟨[], World.ownsRow_nil _ _ _ _, rfl, fun j x u h => by cases h⟩, [], World.ownsRow_nil _ _ _ _, rfl, fun j x u h => by cases h⟩, hfin⟩
      · obtain ⟨n, hn⟩ : ∃ n, l.length = n := ⟨_, rfl⟩
        rw [hn] at hrs h4 hl hk hcl ⊢
        have i4 : decide ((n : Int) < 4) = false := decide_eq_false (by omega)
        have hlr' : ∃ gl ol, al = some ⟨gl, ol, none⟩ := by
          obtain ⟨g, o, h1, _⟩ := hlr (by intro e; rw [e] at hn; simp at hn; omega)
          exact ⟨g, o, h1⟩
        obtain ⟨gl, ol, rfl⟩ := hlr'
        clear hlr hkl i3
        rcases id hrs.hp.2 with ⟨_, h0⟩ | ⟨g, cp', cur, hve, _, _, hcp, _⟩
        · omega
        cases hve
        rcases l with _ | ⟨s0, _ | ⟨s1, _ | ⟨s2, _ | ⟨s3, t⟩⟩⟩⟩
        · simp at hn; omega
        · simp at hn; omega
        · simp at hn; omega
        · simp at hn; omega
        simp only [List.length_cons] at hn
        obtain rfl : n = t.length + 4 := by omega
        clear h4 hn
        have j0 : ¬ ((t.length : Int) + 4 ≤ 0) := by omega
        have j0' : (0 : Int) < (t.length : Int) + 4 := by omega
        have j1 : (1 : Int) < (t.length : Int) + 4 := by omega
        have j2 : (2 : Int) < (t.length : Int) + 4 := by omega
        have j3 : (3 : Int) < (t.length : Int) + 4 := by omega
        have j4 : (4 : Int) ≤ (t.length : Int) + 4 := by omega
        obtain ⟨T0, hT0⟩ : ∃ x, (snd2 s0).2 = x := ⟨_, rfl⟩
        obtain ⟨T1, hT1⟩ : ∃ x, (snd2 s1).2 = x := ⟨_, rfl⟩
        obtain ⟨T2, hT2⟩ : ∃ x, (snd2 s2).2 = x := ⟨_, rfl⟩
        obtain ⟨T3, hT3⟩ : ∃ x, (snd2 s3).2 = x := ⟨_, rfl⟩
        have q0 : wr.cell? ⟨g, 1, none⟩ = some (.string ⟨T0.toArray⟩) := by rw [← hT0]; exact (own_cell hrs.hp (flat3_get _ 0 _ rfl).2).1
        have q1 : wr.cell? ⟨g, 4, none⟩ = some (.string ⟨T1.toArray⟩) := by rw [← hT1]; exact (own_cell hrs.hp (flat3_get _ 1 _ rfl).2).1
        have q2 : wr.cell? ⟨g, 7, none⟩ = some (.string ⟨T2.toArray⟩) := by rw [← hT2]; exact (own_cell hrs.hp (flat3_get _ 2 _ rfl).2).1
        have hrf : recF (s0 :: s1 :: s2 :: s3 :: t) = ⟨T0, T1, T2, kindN T3, if kindN T3 = 0 then addF (t.map snd2) [] else [], if kindN T3 = 2 then modF t [] false else [],
            if kindN T3 = 3 then ((t.map snd2)[0]?.getD ([], [])).2 else [], if kindN T3 = 3 then ((t.map snd2)[2]?.getD ([], [])).2 else [], decide (kindN T3 = 3) && decide (((t.map snd2)[1]?.getD ([], [])).2 = [49]), decide (kindN T3 = 3) && decide (2 < t.length)⟩ := by
          unfold recF
          rw [if_neg (by simp)]
          simp only [List.map_cons, hT0, hT1, hT2, hT3, List.getElem?_cons_zero, List.getElem?_cons_succ, Option.getD_some, List.drop_succ_cons, List.drop_zero, List.length_cons]
          have : decide (6 < t.length + 1 + 1 + 1 + 1) = decide (2 < t.length) := decide_eq_decide.2 (by omega)
          rw [this]
        have HRF := Lib.hid hrf
        have hp3 : (s0 :: s1 :: s2 :: s3 :: t).map splitR = splitR s0 :: splitR s1 :: splitR s2 :: splitR s3 :: t.map splitR := rfl
        have HT3 := Lib.hid hT3
        clear hrf hT0 hT1 hT2 hT3
        go_wp2_with fail
        refine region_anyT (S := fun w' => w'.cell? ⟨g, 1, none⟩ = some (.string ⟨T0.toArray⟩) ∧ w'.cell? ⟨g, 4, none⟩ = some (.string ⟨T1.toArray⟩) ∧ w'.cell? ⟨g, 7, none⟩ = some (.string ⟨T2.toArray⟩)) (st := 13) (by kernel_rfl) ?_
        have s0' : wr.drew.cell? ⟨g, 1, none⟩ = some (.string ⟨T0.toArray⟩) ∧ wr.drew.cell? ⟨g, 4, none⟩ = some (.string ⟨T1.toArray⟩) ∧ wr.drew.cell? ⟨g, 7, none⟩ = some (.string ⟨T2.toArray⟩) := ⟨q0, q1, q2⟩
        have hrd := hrs.drew
        clear hrs q0 q1 q2
        generalize wr.drew = wd at hrd s0' ⊢
        refine anyT_free 0 (.slice (some ⟨g, 0, none⟩) (t.length + 4) cp) rfl (by decide) (by kernel_rfl) (by kernel_rfl) (by kernel_rfl) (fun _ _ _ h => h) (by rfl) (fun w' => by go_simp) (.inr s0') (fun K hK => ?_); go_simp; refine hK _ _ ?_; clear hK K
        refine anyT_free 1 (.pointer (some ⟨g, 0, none⟩)) rfl (by decide) (by kernel_rfl) (by kernel_rfl) (by kernel_rfl) (fun _ _ _ h => h) (by rfl) (fun w' => by go_simp) (.inr s0') (fun K hK => ?_); go_simp; refine hK _ _ ?_; clear hK K
        refine anyT_free 2 (.pointer (some ⟨g, 1, none⟩)) rfl (by decide) (by kernel_rfl) (by kernel_rfl) (by kernel_rfl) (fun _ _ _ h => h) (by rfl) (fun w' => by go_simp) (.inr s0') (fun K hK => ?_); go_simp; refine hK _ _ ?_; clear hK K
        refine anyT_free 4 (.slice (some ⟨g, 0, none⟩) (t.length + 4) cp) rfl (by decide) (by kernel_rfl) (by kernel_rfl) (by kernel_rfl) (fun _ _ _ h => h) (by rfl) (fun w' => by go_simp) (.inr s0') (fun K hK => ?_); go_simp; refine hK _ _ ?_; clear hK K
        refine anyT_free 5 (.pointer (some ⟨g, 3, none⟩)) rfl (by decide) (by kernel_rfl) (by kernel_rfl) (by kernel_rfl) (fun _ _ _ h => h) (by rfl) (fun w' => by go_simp) (.inr s0') (fun K hK => ?_); go_simp; refine hK _ _ ?_; clear hK K
        refine anyT_free 6 (.pointer (some ⟨g, 4, none⟩)) rfl (by decide) (by kernel_rfl) (by kernel_rfl) (by kernel_rfl) (fun _ _ _ h => h) (by rfl) (fun w' => by go_simp) (.inr s0') (fun K hK => ?_); go_simp; refine hK _ _ ?_; clear hK K
        refine anyT_free 8 (.slice (some ⟨g, 0, none⟩) (t.length + 4) cp) rfl (by decide) (by kernel_rfl) (by kernel_rfl) (by kernel_rfl) (fun _ _ _ h => h) (by rfl) (fun w' => by go_simp) (.inr s0') (fun K hK => ?_); go_simp; refine hK _ _ ?_; clear hK K
        refine anyT_free 9 (.pointer (some ⟨g, 6, none⟩)) rfl (by decide) (by kernel_rfl) (by kernel_rfl) (by kernel_rfl) (fun _ _ _ h => h) (by rfl) (fun w' => by go_simp) (.inr s0') (fun K hK => ?_); go_simp; refine hK _ _ ?_; clear hK K
        refine anyT_free 10 (.pointer (some ⟨g, 7, none⟩)) rfl (by decide) (by kernel_rfl) (by kernel_rfl) (by kernel_rfl) (fun _ _ _ h => h) (by rfl) (fun w' => by go_simp) (.inr s0') (fun K hK => ?_); go_simp; refine hK _ _ ?_; clear hK K
        refine anyT_take 3 (.string ⟨T0.toArray⟩) rfl (by decide) rfl (by kernel_rfl) (by kernel_rfl) (by kernel_rfl) (by kernel_rfl) (fun _ _ _ h => h) (by rfl) (fun w' hS => by obtain ⟨q0, q1, q2⟩ := hS; go_simp) (by rfl) s0' (fun K hK => ?_); go_simp; refine hK _ _ ?_; clear hK K
        refine anyT_take 7 (.string ⟨T1.toArray⟩) rfl (by decide) rfl (by kernel_rfl) (by kernel_rfl) (by kernel_rfl) (by kernel_rfl) (fun _ _ _ h => h) (by rfl) (fun w' hS => by obtain ⟨q0, q1, q2⟩ := hS; go_simp) (by rfl) s0' (fun K hK => ?_); go_simp; refine hK _ _ ?_; clear hK K
        refine anyT_take 11 (.string ⟨T2.toArray⟩) rfl (by decide) rfl (by kernel_rfl) (by kernel_rfl) (by kernel_rfl) (by kernel_rfl) (fun _ _ _ h => h) (by rfl) (fun w' hS => by obtain ⟨q0, q1, q2⟩ := hS; go_simp) (by rfl) s0' (fun K hK => ?_); go_simp; refine hK _ _ ?_; clear hK K
        refine anyT_free 12 (.agg #[.string ⟨T0.toArray⟩, .string ⟨T1.toArray⟩, .string ⟨T2.toArray⟩, .int .i64 (-1), .slice none 0 0, .slice none 0 0, .string ⟨#[]⟩, .string ⟨#[]⟩, .bool false, .bool false]) rfl (by decide) (by kernel_rfl) (by kernel_rfl) (by kernel_rfl) (fun _ _ _ h => h) (by rfl) (fun w' => by go_simp) (.inr s0') (fun K hK => ?_); go_simp; refine hK _ _ ?_; clear hK K
        obtain ⟨⟨c0, c1, c2, c3, c4, c5, c6, c7, c8, c9⟩, y0, y1, y2, y3, y4, y5, y6, y7, y8, y9⟩ := ten_cells hrd.hc
        refine anyT_one 13 (by kernel_rfl) rfl (by rfl) (fun K hK => ?_); go_simp; refine hK _ _ (.inl (by rfl)) ?_; clear hK K
        have hr2 := hrd.put (.string ⟨T0.toArray⟩) (.string ⟨T1.toArray⟩) (.string ⟨T2.toArray⟩) (.int .i64 (-1)) (.slice none 0 0) (.slice none 0 0) (.string ⟨#[]⟩) (.string ⟨#[]⟩) (.bool false) (.bool false)
        clear c0 c1 c2 c3 c4 c5 c6 c7 c8 c9 y0 y1 y2 y3 y4 y5 y6 y7 y8 y9 s0' hrd
        unfold put10 at hr2
        generalize (((((((((wd.setCell ⟨N + 1, 0, none⟩ (.string ⟨T0.toArray⟩)).setCell ⟨N + 1, 1, none⟩ (.string ⟨T1.toArray⟩)).setCell ⟨N + 1, 2, none⟩ (.string ⟨T2.toArray⟩)).setCell ⟨N + 1, 3, none⟩ (.int .i64 (-1))).setCell ⟨N + 1, 4, none⟩ (.slice none 0 0)).setCell ⟨N + 1, 5, none⟩ (.slice none 0 0)).setCell ⟨N + 1, 6, none⟩ (.string ⟨#[]⟩)).setCell ⟨N + 1, 7, none⟩ (.string ⟨#[]⟩)).setCell ⟨N + 1, 8, none⟩ (.bool false)).setCell ⟨N + 1, 9, none⟩ (.bool false) = w2 at hr2 ⊢
        refine anyT_done (by kernel_rfl) ?_ _
        go_wp2_with fail
        go_loopw [6] (fun i wq => ∃ k : Nat, i = .int .i64 (k : Int) ∧ k ≤ 4 ∧ RS N w #[.string ⟨T0.toArray⟩, .string ⟨T1.toArray⟩, .string ⟨T2.toArray⟩, .int .i64 (kpn T3 k), .slice none 0 0, .slice none 0 0, .string ⟨#[]⟩, .string ⟨#[]⟩, .bool false, .bool false] (.slice (some ⟨g, 0, none⟩) (t.length + 4) cp) (t.length + 4) ((s0 :: s1 :: s2 :: s3 :: t).map splitR) wq) (fun i _ => 4 - (RowKit.intOf i).toNat)
        case atStart => exact ⟨0, rfl, by omega, hr2⟩
        case round =>
          clear hr2
          obtain ⟨k, rfl, hk4, hrs⟩ := hrel
          by_cases hk4' : k < 4
          · have i5 : decide ((k : Int) < 4) = true := decide_eq_true (by omega)
            have q3 : wr.cell? ⟨g, 10, none⟩ = some (.string ⟨T3.toArray⟩) := by rw [← HT3.out]; exact (own_cell hrs.hp (flat3_get _ 3 _ rfl).2).1
            go_wp2_with fail
            refine region_anyT (S := fun w' => w'.cell? ⟨g, 10, none⟩ = some (.string ⟨T3.toArray⟩)) (st := 8) (by kernel_rfl) ?_
            have s0' : wr.drew.cell? ⟨g, 10, none⟩ = some (.string ⟨T3.toArray⟩) := q3
            have hrd := hrs.drew
            clear hrs q3
            generalize wr.drew = wd at hrd s0' ⊢
            refine anyT_free 1 (.int .i64 (k : Int)) rfl (by decide) (by kernel_rfl) (by kernel_rfl) (by kernel_rfl) (fun _ _ _ h => h) (by rfl) (fun w' => by go_simp) (.inr s0') (fun K hK => ?_); go_simp; refine hK _ _ ?_; clear hK K
            refine anyT_free 4 (.slice (some ⟨g, 0, none⟩) (t.length + 4) cp) rfl (by decide) (by kernel_rfl) (by kernel_rfl) (by kernel_rfl) (fun _ _ _ h => h) (by rfl) (fun w' => by go_simp) (.inr s0') (fun K hK => ?_); go_simp; refine hK _ _ ?_; clear hK K
            refine anyT_free 5 (.pointer (some ⟨g, 9, none⟩)) rfl (by decide) (by kernel_rfl) (by kernel_rfl) (by kernel_rfl) (fun _ _ _ h => h) (by rfl) (fun w' => by go_simp) (.inr s0') (fun K hK => ?_); go_simp; refine hK _ _ ?_; clear hK K
            refine anyT_free 6 (.pointer (some ⟨g, 10, none⟩)) rfl (by decide) (by kernel_rfl) (by kernel_rfl) (by kernel_rfl) (fun _ _ _ h => h) (by rfl) (fun w' => by go_simp) (.inr s0') (fun K hK => ?_); go_simp; refine hK _ _ ?_; clear hK K
            refine anyT_take 7 (.string ⟨T3.toArray⟩) rfl (by decide) rfl (by kernel_rfl) (by kernel_rfl) (by kernel_rfl) (by kernel_rfl) (fun _ _ _ h => h) (by rfl) (fun w' hS => by go_simp) (by rfl) s0' (fun K hK => ?_); go_simp; refine hK _ _ ?_; clear hK K
            refine anyT_one 0 (by kernel_rfl) rfl (by rfl) (fun K hK => ?_); go_simp
            refine Calls.mono (show Calls _ _ _ _ _ from kinds_any wd) ?_
            rintro e w5 ⟨rfl, hw5⟩
            have hb5 : Below wd.heap.size wd w5 := by rw [hw5]; exact (Below.refl _ _).alloc (Nat.le_refl _) _
            have hr5 := hrd.below hb5
            have s5 := (hb5.cell (lt_of_cell s0')).trans s0'
            obtain ⟨KW, hKW⟩ : ∃ K, kindW (k : Int) = K := ⟨_, rfl⟩
            have kc : w5.cell? ⟨wd.heap.size, k, none⟩ = some (.string ⟨KW.toArray⟩) := by
              rw [hw5, Lib.cell_of_heap (alloc_at _ _ _ rfl), ← hKW]
              have : k = 0 ∨ k = 1 ∨ k = 2 ∨ k = 3 := by omega
              rcases this with rfl | rfl | rfl | rfl <;> rfl
            have i6 : (k : Int) < 4 := by omega
            generalize wd.heap.size = G at kc hw5 hb5 ⊢
            clear hw5 hb5 s0' hrd
            refine hK _ _ (.inr s5) ?_; clear hK K
            refine anyT_one 2 (by kernel_rfl) rfl (by rfl) (fun K hK => ?_); go_simp; refine hK _ _ (.inr s5) ?_; clear hK K
            refine anyT_one 3 (by kernel_rfl) rfl (by rfl) (fun K hK => ?_); go_simp; refine hK _ _ (.inr s5) ?_; clear hK K
            by_cases hq : KW = T3
            · have bq : (KW == T3) = true := by simpa using hq
              have hkp : kpn T3 (k + 1) = (k : Int) := by simp only [kpn]; rw [hKW, if_pos hq]
              have HKP := Lib.hid hkp
              obtain ⟨_, y0, y1, y2, y3, _⟩ := ten_cells hr5.hc
              clear hKW hq hkp kc
              refine anyT_one 8 (by kernel_rfl) rfl (by rfl) (fun K hK => ?_); go_simp; refine hK _ _ (.inl (by rfl)) ?_; clear hK K
              refine anyT_done (by kernel_rfl) ?_ _
              obtain ⟨⟨_, _, _, c3, _⟩, _⟩ := ten_cells hr5.hc
              go_wp2_with fail
              go_roundw
              case rel =>
                refine ⟨k + 1, by go_num, by omega, ?_⟩
                rw [HKP.out]
                exact hr5.set 3 (.int .i64 (k : Int))
              case measure => simp [RowKit.intOf]; omega
            · have bq : (KW == T3) = false := by simpa using hq
              have hkp : kpn T3 (k + 1) = kpn T3 k := by simp only [kpn]; rw [hKW, if_neg hq]
              have HKP := Lib.hid hkp
              clear hKW hq hkp kc
              refine anyT_one 8 (by kernel_rfl) rfl (by rfl) (fun K hK => ?_); go_simp; refine hK _ _ (.inl (by rfl)) ?_; clear hK K
              refine anyT_done (by kernel_rfl) ?_ _
              go_wp2_with fail
              go_roundw
              case rel =>
                refine ⟨k + 1, by go_num, by omega, ?_⟩
                rw [HKP.out]
                exact hr5
              case measure => simp [RowKit.intOf]; omega
          · obtain rfl : k = 4 := by omega
            have i5 : decide ((4 : Int) < 4) = false := by decide
            rw [kpn_four] at hrs
            obtain ⟨kd, hkd⟩ : ∃ x, kindN T3 = x := ⟨_, rfl⟩
            rw [hkd] at hrs HRF
            clear hkd HT3
            go_wp2_with fail
            go_cut [0, 4] from 61 to 64 (fun q0 q4 wx => ∃ (ol' op cl' cp' nq : Nat), q0 = .slice (some ⟨gl, ol', none⟩) t.length cl' ∧ q4 = .slice (some ⟨g, op, none⟩) t.length cp' ∧ (t ≠ [] → ol' = ol + 4 ∧ op = 12) ∧ wx = wr.drewN nq)
            case first =>
              by_cases e1 : cp = 4
              · subst e1
                obtain rfl : t = [] := List.eq_nil_of_length_eq_zero (by omega)
                by_cases e2 : cl = 4
                · subst e2
                  go_wp2
                  go_quiet (fail)
                  go_wp2_with fail
                  go_meet
                  case rel =>
                    refine ⟨_, _, _, _, _, rfl, rfl, fun h0 => ?_, rfl⟩
                    first | exact absurd rfl h0 | exact ⟨rfl, rfl⟩
                · skip
                  go_wp2
                  go_quiet (fail)
                  go_wp2_with fail
                  go_meet
                  case rel =>
                    refine ⟨_, _, _, _, _, rfl, rfl, fun h0 => ?_, rfl⟩
                    first | exact absurd rfl h0 | exact ⟨rfl, rfl⟩
              · by_cases e2 : cl = 4
                · subst e2
                  obtain rfl : t = [] := List.eq_nil_of_length_eq_zero (by omega)
                  go_wp2
                  go_quiet (fail)
                  go_wp2_with fail
                  go_meet
                  case rel =>
                    refine ⟨_, _, _, _, _, rfl, rfl, fun h0 => ?_, rfl⟩
                    first | exact absurd rfl h0 | exact ⟨rfl, rfl⟩
                · skip
                  go_wp2
                  go_quiet (fail)
                  go_wp2_with fail
                  go_meet
                  case rel =>
                    refine ⟨_, _, _, _, _, rfl, rfl, fun h0 => ?_, rfl⟩
                    first | exact absurd rfl h0 | exact ⟨rfl, rfl⟩
            case rest =>
            obtain ⟨ol', op, cl', cp', nq, rfl, rfl, hoff, rfl⟩ := hcut
            replace hrs := hrs.drewN nq
            generalize wr.drewN nq = wr at hrs ⊢
            have hkk : kd = 0 ∨ kd = 2 ∨ kd = 3 ∨ (kd ≠ 0 ∧ kd ≠ 2 ∧ kd ≠ 3) := by omega
            obtain ⟨_, _, _, _, c3, _⟩ := (ten_cells hrs.hc).1
            rcases hkk with rfl | rfl | rfl | ⟨hk0, hk2, hk3⟩
            · go_wp2_with fail
              clear c3
              obtain ⟨iA, hiA, hA0, hA1, hA2⟩ := info_parts Tryz.infoAttr
              obtain ⟨iS, hiS, hS0, hS1, hS2⟩ := info_parts Tryz.infoString
              obtain ⟨FIN, hFIN⟩ : ∃ F, addF (t.map snd2) [] = F := ⟨_, rfl⟩
              have HFI := Lib.hid hFIN
              clear hFIN
              go_loopw [7] (fun i wq => ∃ (k : Nat) (acc : List At) (us : List Value) (vA : Value), i = .int .i64 (k : Int) ∧ k ≤ t.length ∧ RS N w (AF T0 T1 T2 vA) (.slice (some ⟨g, 0, none⟩) (t.length + 4) cp) (t.length + 4) ((s0 :: s1 :: s2 :: s3 :: t).map splitR) wq ∧ AG (N + 2) wq vA acc us ∧ addF ((t.drop k).map snd2) acc = FIN ∧ acc.length ≤ k ∧ ∀ x ∈ acc, x.2.length ≤ k) (fun i _ => t.length - (RowKit.intOf i).toNat)
              case atStart => exact ⟨0, [], [], .slice none 0 0, rfl, by omega, hrs, AG.nil _ _, HFI.out, by simp, fun x hx => by cases hx⟩
              case round =>
                clear hrs
                obtain ⟨k, acc, us, vA, rfl, hk, hrs, hag, hadd, hal, hvl⟩ := hrel
                obtain ⟨aA, cA, hvA⟩ := gl_of hag.ho
                subst hvA
                by_cases hkl : k < t.length
                · have hne : t ≠ [] := by intro e; rw [e] at hkl; simp at hkl
                  obtain ⟨rfl, rfl⟩ := hoff hne
                  obtain ⟨x, hx⟩ : ∃ x, t[k]? = some x := ⟨t[k], List.getElem?_eq_getElem hkl⟩
                  obtain ⟨nm, hnm⟩ : ∃ x', (snd2 x).1 = x' := ⟨_, rfl⟩
                  obtain ⟨vl, hvv⟩ : ∃ x', (snd2 x).2 = x' := ⟨_, rfl⟩
                  have hPC := Lib.hid (fun (xs : Array Value) (wq : World) (h : RS N w xs (.slice (some ⟨g, 0, none⟩) (t.length + 4) cp) (t.length + 4) ((s0 :: s1 :: s2 :: s3 :: t).map splitR) wq) => (show wq.cell? ⟨g, 12 + k * 3, none⟩ = some (.string ⟨nm.toArray⟩) ∧ wq.cell? ⟨g, 12 + k * 3 + 1, none⟩ = some (.string ⟨vl.toArray⟩) by rw [← hnm, ← hvv]; exact h.pc hx))
                  have hdr : t.drop k = x :: t.drop (k + 1) := by
                    obtain ⟨hlt, e⟩ := List.getElem?_eq_some_iff.1 hx
                    rw [List.drop_eq_getElem_cons hlt, e]
                  have hadd2 : addF ((t.drop (k + 1)).map snd2) (putA (nm, vl) acc) = FIN := by
                    rw [hdr, List.map_cons, addF] at hadd
                    rw [← hnm, ← hvv]
                    exact hadd
                  have HADD := Lib.hid hadd2
                  have HVL := Lib.hid hvl
                  have i5 : decide ((k : Int) < (t.length : Int)) = true := decide_eq_true (by omega)
                  have i6 : (k : Int) < (t.length : Int) := by omega
                  obtain ⟨n, hn⟩ : ∃ n, acc.length = n := ⟨_, rfl⟩
                  have HNA := Lib.hid hn
                  rw [hn] at hrs hal
                  have hs' := hrs
                  unfold AF at hs'
                  have c4 := (ten_cells hs'.hc).1.2.2.2.2.1
                  have hag' := hag
                  clear hs' hnm hvv hx hdr hadd hadd2 hvl hn hne
                  go_upto_region 22 with fail
                  obtain ⟨NW, hNW⟩ : ∃ b, nwB acc nm = b := ⟨_, rfl⟩
                  have HNW := Lib.hid hNW
                  clear hNW
                  go_cut [94] from 78 to 94 (fun s94 wx => s94 = .bool NW ∧ ∃ nq, wx = wr.drewN nq)
                  case first =>
                    obtain ⟨q0, _⟩ := hPC.out _ _ hrs
                    rcases List.eq_nil_or_concat acc with hnil | ⟨init, bb, hcon⟩
                    · have hnw : NW = true := by rw [← HNW.out, hnil]; rfl
                      subst hnw
                      have g0 : ((n : Int) == 0) = true := by rw [← HNA.out, hnil]; rfl
                      clear hnil
                      go_wp2
                      go_quiet (fail)
                      go_wp2_with fail
                      go_meet
                      case rel => exact ⟨rfl, _, rfl⟩
                    · obtain ⟨ty, vs⟩ := bb
                      rw [List.concat_eq_append] at hcon
                      have hn1 : n = init.length + 1 := by rw [← HNA.out, hcon]; simp
                      have g0 : ((n : Int) == 0) = false := by rw [beq_eq_false_iff_ne]; omega
                      have hgl : acc.getLast? = some (ty, vs) := by rw [hcon]; simp
                      have ho2 := hag.ho
                      rw [HNA.out] at ho2
                      rcases id ho2.2 with ⟨_, h0⟩ | ⟨gA, cA', curA, hvA, _⟩
                      · omega
                      cases hvA
                      obtain ⟨uu, huu⟩ : ∃ uu, us[init.length]? = some uu := ⟨_, List.getElem?_eq_getElem (by rw [hag.hl, HNA.out]; omega)⟩
                      obtain ⟨q1, _⟩ := own_cell ho2 (flatA_get acc us init.length (ty, vs) uu (by rw [hcon]; simp) huu).1
                      have i1 : (0 : Int) ≤ (init.length : Int) := by omega
                      have i2 : (init.length : Int) < (n : Int) := by omega
                      have i3 : (n : Int) - 1 = (init.length : Int) := by omega
                      have i4 : IntKind.i64.wrap ((n : Int) - 1) = (init.length : Int) := by rw [i3]; exact wraps_i64 _ (by omega) (by omega)
                      obtain ⟨K, hK⟩ : ∃ K, init.length = K := ⟨_, rfl⟩
                      rw [hK] at q1 i1 i2 i3 i4
                      by_cases hty : ty = nm
                      · have hnw : NW = false := by rw [← HNW.out]; simp [nwB, hgl, hty]
                        subst hnw
                        rw [hty] at q1
                        have b1 : (nm == nm) = true := by simp
                        have b2 : (nm != nm) = false := by simp
                        clear hcon hgl huu hty hK hn1 i3
                        go_wp2
                        go_quiet (fail)
                        go_wp2_with fail
                        go_meet
                        case rel => exact ⟨rfl, _, rfl⟩
                      · have hnw : NW = true := by rw [← HNW.out]; simp [nwB, hgl, hty]
                        subst hnw
                        have b1 : (ty == nm) = false := by simpa using hty
                        have b2 : (ty != nm) = true := by simpa using hty
                        clear hcon hgl huu hK hn1 i3 hty
                        go_wp2
                        go_quiet (fail)
                        go_wp2_with fail
                        go_meet
                        case rel => exact ⟨rfl, _, rfl⟩
                  case rest =>
                  obtain ⟨rfl, nq, rfl⟩ := hcut
                  replace hrs := hrs.drewN nq
                  replace hag := hag.dr nq
                  clear c4 hag'
                  generalize wr.drewN nq = wr at hrs hag ⊢
                  have hs' := hrs
                  unfold AF at hs'
                  have c4 := (ten_cells hs'.hc).1.2.2.2.2.1
                  have f4 := Lib.frozen_of_heap hs'.hc 4
                  clear hs'
                  go_upto_if 94 with fail
                  go_cut [8] from 95 to 107 (fun s8 wx => AQ2 N w T0 T1 T2 (.slice (some ⟨g, 0, none⟩) (t.length + 4) cp) (t.length + 4) ((s0 :: s1 :: s2 :: s3 :: t).map splitR) acc nm vl k s8 wx)
                  case first =>
                    cases NW with
                    | true =>
                      have hnew := nw_new (vl := vl) HNW.out
                      have HPUT := Lib.hid hnew
                      obtain ⟨q0, _⟩ := hPC.out _ _ hrs
                      clear hnew
                      go_wp2_with fail
                      refine region_anyT (S := fun w' => w'.cell? ⟨N + 1, 4, none⟩ = some (.slice aA n cA) ∧ w'.cell? ⟨g, 12 + k * 3, none⟩ = some (.string ⟨nm.toArray⟩)) (st := 11) (by kernel_rfl) ?_
                      have s0' : wr.drew.cell? ⟨N + 1, 4, none⟩ = some (.slice aA n cA) ∧ wr.drew.cell? ⟨g, 12 + k * 3, none⟩ = some (.string ⟨nm.toArray⟩) := ⟨c4, q0⟩
                      have hrd := hrs.drew
                      have had := hag.dr1
                      have hag0 := hag.hl
                      clear hrs hag q0 c4 f4
                      generalize wr.drew = wd at hrd had s0' ⊢
                      refine anyT_free 0 (.pointer (some ⟨N + 1, 4, none⟩)) rfl (by decide) (by kernel_rfl) (by kernel_rfl) (by kernel_rfl) (fun _ _ _ h => h) (by rfl) (fun w' => by go_simp) (.inr s0') (fun K hK => ?_); go_simp; refine hK _ _ ?_; clear hK K
                      refine anyT_free 2 (.slice (some ⟨g, 12, none⟩) t.length cp') rfl (by decide) (by kernel_rfl) (by kernel_rfl) (by kernel_rfl) (fun _ _ _ h => h) (by rfl) (fun w' => by go_simp) (.inr s0') (fun K hK => ?_); go_simp; refine hK _ _ ?_; clear hK K
                      refine anyT_free 3 (.int .i64 (k : Int)) rfl (by decide) (by kernel_rfl) (by kernel_rfl) (by kernel_rfl) (fun _ _ _ h => h) (by rfl) (fun w' => by go_simp) (.inr s0') (fun K hK => ?_); go_simp; refine hK _ _ ?_; clear hK K
                      refine anyT_free 4 (.pointer (some ⟨g, 12 + k * 3, none⟩)) rfl (by decide) (by kernel_rfl) (by kernel_rfl) (by kernel_rfl) (fun _ _ _ h => h) (by rfl) (fun w' => by go_simp) (.inr s0') (fun K hK => ?_); go_simp; refine hK _ _ ?_; clear hK K
                      refine anyT_free 5 (.pointer (some ⟨g, 12 + k * 3, none⟩)) rfl (by decide) (by kernel_rfl) (by kernel_rfl) (by kernel_rfl) (fun _ _ _ h => h) (by rfl) (fun w' => by go_simp) (.inr s0') (fun K hK => ?_); go_simp; refine hK _ _ ?_; clear hK K
                      refine anyT_take 1 (.slice aA n cA) rfl (by decide) rfl (by kernel_rfl) (by kernel_rfl) (by kernel_rfl) (by kernel_rfl) (fun _ _ _ h => h) (by rfl) (fun w' hS => by obtain ⟨q0, q1⟩ := hS; go_simp) (by rfl) s0' (fun K hK => ?_); go_simp; refine hK _ _ ?_; clear hK K
                      refine anyT_take 6 (.string ⟨nm.toArray⟩) rfl (by decide) rfl (by kernel_rfl) (by kernel_rfl) (by kernel_rfl) (by kernel_rfl) (fun _ _ _ h => h) (by rfl) (fun w' hS => by obtain ⟨q0, q1⟩ := hS; go_simp) (by rfl) s0' (fun K hK => ?_); go_simp; refine hK _ _ ?_; clear hK K
                      refine anyT_free 7 (.agg #[.string ⟨nm.toArray⟩, .slice none 0 0]) rfl (by decide) (by kernel_rfl) (by kernel_rfl) (by kernel_rfl) (fun _ _ _ h => h) (by rfl) (fun w' => by go_simp) (.inr s0') (fun K hK => ?_); go_simp; refine hK _ _ ?_; clear hK K
                      have hbC : Below wd.heap.size wd (wd.alloc (.cells #[.string ⟨nm.toArray⟩, .slice none 0 0] 179)) := (Below.refl _ _).alloc (Nat.le_refl _) _
                      have hr8 := hrd.below hbC
                      have ha8 := had.below hbC
                      have s8 : (wd.alloc (.cells #[.string ⟨nm.toArray⟩, .slice none 0 0] 179)).cell? ⟨N + 1, 4, none⟩ = some (.slice aA n cA) ∧ (wd.alloc (.cells #[.string ⟨nm.toArray⟩, .slice none 0 0] 179)).cell? ⟨g, 12 + k * 3, none⟩ = some (.string ⟨nm.toArray⟩) := ⟨(hbC.cell (lt_of_cell s0'.1)).trans s0'.1, (hbC.cell (lt_of_cell s0'.2)).trans s0'.2⟩
                      refine anyT_one 8 (by kernel_rfl) rfl (by rfl) (fun K hK => ?_); go_simp; refine hK _ _ (.inr s8) ?_; clear hK K
                      have ho8 := ha8.ho
                      rw [HNA.out] at ho8
                      have hsz8 := hr8.size
                      refine anyT_one 9 (by kernel_rfl) rfl (by rfl) (fun K hK => ?_)
                      refine wp_append_lies _ (.tmp 96) (.tmp 103) 44 rfl (N + 2) 179 iA _ 2 40 Tryz.underlying44 hiA hA0 hA1 hA2 rfl (by decide) (.slice aA n cA) n (flatA acc us) (by rfl) ho8 ⟨wd.heap.size, 0, none⟩ 1 1 [.string ⟨nm.toArray⟩, .slice none 0 0] (by rfl) rfl (World.news_of_block (alloc_at _ _ _ rfl)) (by simp [Value.oneCell']) (by decide) (by unfold maxLen; omega) (by omega) (by omega) (wd.heap.size + 1) (by simp) ?_
                      intro gN cN w12 ho12 hg12 _ hlt12
                      have hr12 := hr8.grown ho8 (by decide) hg12
                      have hg13 := hg12
                      rw [← HNA.out] at hg13
                      have ha12 := ha8.new (v' := .slice (some ⟨gN, 0, none⟩) (n + 1) cN) (typ := nm) hg13 (by rw [HNA.out]; exact ho12)
                      have s12 : w12.cell? ⟨N + 1, 4, none⟩ = some (.slice aA n cA) ∧ w12.cell? ⟨g, 12 + k * 3, none⟩ = some (.string ⟨nm.toArray⟩) := by
                        have h := hr12
                        unfold AF at h
                        refine ⟨?_, (hPC.out _ _ hr12).1⟩
                        exact (ten_cells h.hc).1.2.2.2.2.1
                      have f12 : w12.frozen? ⟨N + 1, 4, none⟩ = false := Lib.frozen_of_heap hr12.hc 4
                      refine hK _ _ (.inr s12) ?_; clear hK K
                      clear hr8 ha8 s8 s0' hbC ho8 hrd had hg12 hg13 ho12
                      refine anyT_one 10 (by kernel_rfl) rfl (by rfl) (fun K hK => ?_); go_simp; refine hK _ _ (.inr s12) ?_; clear hK K
                      refine anyT_one 11 (by kernel_rfl) rfl (by rfl) (fun K hK => ?_); go_simp; refine hK _ _ (.inl (by rfl)) ?_; clear hK K
                      have hr13 := hr12.set 4 (.slice (some ⟨gN, 0, none⟩) (n + 1) cN)
                      have ha13 := ha12.setN (i := 4) (x := .slice (some ⟨gN, 0, none⟩) (n + 1) cN)
                      clear hr12 ha12 s12 f12 hlt12
                      generalize w12.setCell ⟨N + 1, 4, none⟩ (.slice (some ⟨gN, 0, none⟩) (n + 1) cN) = w13 at hr13 ha13 ⊢
                      refine anyT_done (by kernel_rfl) ?_ _
                      go_wp2_with fail
                      go_meet
                      case rel =>
                        refine ⟨acc, us, .slice none 0 0, [], .slice (some ⟨gN, 0, none⟩) (n + 1) cN, ?_, hr13, ha13, hag0, HPUT.out, Nat.le_refl _, Nat.zero_le _, HVL.out⟩
                        rw [HNA.out]
                        go_num
                    | false =>
                      have hag0 := hag.hl
                      obtain ⟨init, vs, hacc, hput⟩ := nw_old vl HNW.out
                      obtain ⟨usI, u, hus⟩ : ∃ a b, us = a ++ [b] := by
                        rcases List.eq_nil_or_concat us with h0 | ⟨a, b, h0⟩
                        · exfalso
                          have := hag0
                          rw [h0, hacc] at this
                          simp at this
                        · exact ⟨a, b, by rw [h0, List.concat_eq_append]⟩
                      have HPUT := Lib.hid hput
                      have hul : usI.length = init.length := by
                        have := hag0
                        rw [hus, hacc] at this
                        simpa using this
                      have hnn : n = init.length + 1 := by rw [← HNA.out, hacc]; simp
                      have HNN2 := Lib.hid hnn
                      have hvsl : vs.length ≤ k := HVL.out (nm, vs) (by rw [hacc]; simp)
                      have hvi : ∀ x ∈ init, x.2.length ≤ k := fun x hx => HVL.out x (by rw [hacc]; simp [hx])
                      have hile : init.length ≤ acc.length := by rw [HNA.out]; omega
                      have HFI2 := Lib.hid (And.intro hul (And.intro hile (And.intro hvsl hvi)))
                      have HAG2 : Hid (AG (N + 2) wr (.slice aA n cA) (init ++ [(nm, vs)]) (usI ++ [u])) := Lib.hid (by rw [← hacc, ← hus, ← HNA.out]; exact hag)
                      clear hacc hput hus hnn hul hile hvsl hvi hag
                      go_wp2_with fail
                      go_meet
                      case rel => exact ⟨init, usI, u, vs, _, by rw [HNN2.out], hrs, HAG2.out, HFI2.out.1, HPUT.out, HFI2.out.2.1, HFI2.out.2.2.1, HFI2.out.2.2.2⟩
                  case rest =>
                  clear hrs hag c4 f4
                  obtain ⟨init, usI, u, vs, vA, rfl, hrs, hag, hul, hput, hil, hvs, hvi⟩ := hcut
                  have ho := hag.ho
                  rw [List.length_append] at ho
                  obtain ⟨gA, cA, hvA⟩ : ∃ gA cA, vA = .slice (some ⟨gA, 0, none⟩) (init.length + 1) cA := by
                    rcases id ho.2 with ⟨_, h0⟩ | ⟨gA, cA, curA, hvA, _⟩
                    · simp at h0
                    · exact ⟨gA, cA, hvA⟩
                  subst hvA
                  have ho : wc.ownsRow (N + 2) 179 2 (.slice (some ⟨gA, 0, none⟩) (init.length + 1) cA) (init.length + 1) (flatA (init ++ [(nm, vs)]) (usI ++ [u])) := ho
                  have hsu := hag.hs init.length (nm, vs) u (by simp) (by rw [← hul]; simp)
                  change wc.ownsRow (N + 2) 9 1 u vs.length (sV vs) at hsu
                  obtain ⟨au, cu, hue⟩ := gl_of hsu
                  subst hue
                  obtain ⟨qA, fA⟩ := own_cell ho (flatA_get _ _ init.length (nm, vs) (.slice au vs.length cu) (by simp) (by rw [← hul]; simp)).2
                  obtain ⟨_, qv⟩ := hPC.out _ _ hrs
                  obtain ⟨J, hJ⟩ : ∃ J, init.length = J := ⟨_, rfl⟩
                  have HJ := Lib.hid hJ
                  have hJn : J ≤ k := by have := HNA.out; omega
                  rw [hJ] at hrs qA fA
                  have hs' := hrs
                  unfold AF at hs'
                  have c4 := (ten_cells hs'.hc).1.2.2.2.2.1
                  have i1 : (0 : Int) ≤ (J : Int) := by omega
                  have i2 : (J : Int) < (J : Int) + 1 := by omega
                  have i3 : (J : Int) + 1 - 1 = (J : Int) := by omega
                  have i4 : IntKind.i64.wrap (J : Int) = (J : Int) := wraps_i64 _ (by omega) (by omega)
                  have HUL := Lib.hid hul
                  have HPUT := Lib.hid hput
                  have HIL := Lib.hid hil
                  have HVS := Lib.hid hvs
                  have HVI := Lib.hid hvi
                  have hvsk : vs.length ≤ 1000000 := by omega
                  clear hul hput hil hvs hvi hs' ho hsu fA hJ
                  have i7 : (((J + 1 : Nat) : Int)) = (J : Int) + 1 := by omega
                  rw [HJ.out]
                  go_wp2_with fail
                  refine region_anyT (S := fun w' => w'.cell? ⟨N + 1, 4, none⟩ = some (.slice (some ⟨gA, 0, none⟩) (J + 1) cA) ∧ w'.cell? ⟨gA, J * 2 + 1, none⟩ = some (.slice au vs.length cu) ∧ w'.cell? ⟨g, 12 + k * 3 + 1, none⟩ = some (.string ⟨vl.toArray⟩)) (st := 20) (by kernel_rfl) ?_
                  have s0' : wc.drew.cell? ⟨N + 1, 4, none⟩ = some (.slice (some ⟨gA, 0, none⟩) (J + 1) cA) ∧ wc.drew.cell? ⟨gA, J * 2 + 1, none⟩ = some (.slice au vs.length cu) ∧ wc.drew.cell? ⟨g, 12 + k * 3 + 1, none⟩ = some (.string ⟨vl.toArray⟩) := ⟨c4, qA, qv⟩
                  have hrd := hrs.drew
                  have had := hag.dr1
                  clear hrs hag c4 qA qv
                  generalize wc.drew = wd at hrd had s0' ⊢
                  refine anyT_free 0 (.pointer (some ⟨N + 1, 4, none⟩)) rfl (by decide) (by kernel_rfl) (by kernel_rfl) (by kernel_rfl) (fun _ _ _ h => h) (by rfl) (fun w' => by go_simp) (.inr s0') (fun K' hK' => ?_); go_simp; refine hK' _ _ ?_; clear hK' K'
                  refine anyT_free 2 (.int .i64 ((J : Int) + 1)) rfl (by decide) (by kernel_rfl) (by kernel_rfl) (by kernel_rfl) (fun _ _ _ h => h) (by rfl) (fun w' => by go_simp) (.inr s0') (fun K' hK' => ?_); go_simp; refine hK' _ _ ?_; clear hK' K'
                  refine anyT_free 3 (.int .i64 (J : Int)) rfl (by decide) (by kernel_rfl) (by kernel_rfl) (by kernel_rfl) (fun _ _ _ h => h) (by rfl) (fun w' => by go_simp) (.inr s0') (fun K' hK' => ?_); go_simp; refine hK' _ _ ?_; clear hK' K'
                  refine anyT_free 4 (.pointer (some ⟨N + 1, 4, none⟩)) rfl (by decide) (by kernel_rfl) (by kernel_rfl) (by kernel_rfl) (fun _ _ _ h => h) (by rfl) (fun w' => by go_simp) (.inr s0') (fun K' hK' => ?_); go_simp; refine hK' _ _ ?_; clear hK' K'
                  refine anyT_free 6 (.int .i64 ((J : Int) + 1)) rfl (by decide) (by kernel_rfl) (by kernel_rfl) (by kernel_rfl) (fun _ _ _ h => h) (by rfl) (fun w' => by go_simp) (.inr s0') (fun K' hK' => ?_); go_simp; refine hK' _ _ ?_; clear hK' K'
                  refine anyT_free 7 (.int .i64 (J : Int)) rfl (by decide) (by kernel_rfl) (by kernel_rfl) (by kernel_rfl) (fun _ _ _ h => h) (by rfl) (fun w' => by go_simp) (.inr s0') (fun K' hK' => ?_); go_simp; refine hK' _ _ ?_; clear hK' K'
                  refine anyT_free 11 (.slice (some ⟨g, 12, none⟩) t.length cp') rfl (by decide) (by kernel_rfl) (by kernel_rfl) (by kernel_rfl) (fun _ _ _ h => h) (by rfl) (fun w' => by go_simp) (.inr s0') (fun K' hK' => ?_); go_simp; refine hK' _ _ ?_; clear hK' K'
                  refine anyT_free 12 (.int .i64 (k : Int)) rfl (by decide) (by kernel_rfl) (by kernel_rfl) (by kernel_rfl) (fun _ _ _ h => h) (by rfl) (fun w' => by go_simp) (.inr s0') (fun K' hK' => ?_); go_simp; refine hK' _ _ ?_; clear hK' K'
                  refine anyT_free 13 (.pointer (some ⟨g, 12 + k * 3, none⟩)) rfl (by decide) (by kernel_rfl) (by kernel_rfl) (by kernel_rfl) (fun _ _ _ h => h) (by rfl) (fun w' => by go_simp) (.inr s0') (fun K' hK' => ?_); go_simp; refine hK' _ _ ?_; clear hK' K'
                  refine anyT_free 14 (.pointer (some ⟨g, 12 + k * 3 + 1, none⟩)) rfl (by decide) (by kernel_rfl) (by kernel_rfl) (by kernel_rfl) (fun _ _ _ h => h) (by rfl) (fun w' => by go_simp) (.inr s0') (fun K' hK' => ?_); go_simp; refine hK' _ _ ?_; clear hK' K'
                  refine anyT_take 1 (.slice (some ⟨gA, 0, none⟩) (J + 1) cA) rfl (by decide) rfl (by kernel_rfl) (by kernel_rfl) (by kernel_rfl) (by kernel_rfl) (fun _ _ _ h => h) (by rfl) (fun w' hS => by obtain ⟨q0, q1, q2⟩ := hS; go_simp) (by rfl) s0' (fun K' hK' => ?_); go_simp; refine hK' _ _ ?_; clear hK' K'
                  refine anyT_take 5 (.slice (some ⟨gA, 0, none⟩) (J + 1) cA) rfl (by decide) rfl (by kernel_rfl) (by kernel_rfl) (by kernel_rfl) (by kernel_rfl) (fun _ _ _ h => h) (by rfl) (fun w' hS => by obtain ⟨q0, q1, q2⟩ := hS; go_simp) (by rfl) s0' (fun K' hK' => ?_); go_simp; refine hK' _ _ ?_; clear hK' K'
                  refine anyT_free 8 (.pointer (some ⟨gA, J * 2, none⟩)) rfl (by decide) (by kernel_rfl) (by kernel_rfl) (by kernel_rfl) (fun _ _ _ h => h) (by rfl) (fun w' => by go_simp) (.inr s0') (fun K' hK' => ?_); go_simp; refine hK' _ _ ?_; clear hK' K'
                  refine anyT_free 9 (.pointer (some ⟨gA, J * 2 + 1, none⟩)) rfl (by decide) (by kernel_rfl) (by kernel_rfl) (by kernel_rfl) (fun _ _ _ h => h) (by rfl) (fun w' => by go_simp) (.inr s0') (fun K' hK' => ?_); go_simp; refine hK' _ _ ?_; clear hK' K'
                  refine anyT_take 10 (.slice au vs.length cu) rfl (by decide) rfl (by kernel_rfl) (by kernel_rfl) (by kernel_rfl) (by kernel_rfl) (fun _ _ _ h => h) (by rfl) (fun w' hS => by obtain ⟨q0, q1, q2⟩ := hS; go_simp) (by rfl) s0' (fun K' hK' => ?_); go_simp; refine hK' _ _ ?_; clear hK' K'
                  refine anyT_take 15 (.string ⟨vl.toArray⟩) rfl (by decide) rfl (by kernel_rfl) (by kernel_rfl) (by kernel_rfl) (by kernel_rfl) (fun _ _ _ h => h) (by rfl) (fun w' hS => by obtain ⟨q0, q1, q2⟩ := hS; go_simp) (by rfl) s0' (fun K' hK' => ?_); go_simp; refine hK' _ _ ?_; clear hK' K'
                  have hbC : Below wd.heap.size wd (wd.alloc (.cells #[.string ⟨vl.toArray⟩] 9)) := (Below.refl _ _).alloc (Nat.le_refl _) _
                  have hr8 := hrd.below hbC
                  have ha8 := had.below hbC
                  have s8 := And.intro ((hbC.cell (lt_of_cell s0'.1)).trans s0'.1) (And.intro ((hbC.cell (lt_of_cell s0'.2.1)).trans s0'.2.1) ((hbC.cell (lt_of_cell s0'.2.2)).trans s0'.2.2))
                  refine anyT_one 16 (by kernel_rfl) rfl (by rfl) (fun K' hK' => ?_); go_simp; refine hK' _ _ (.inr s8) ?_; clear hK' K'
                  have hu8 := ha8.hs init.length (nm, vs) (.slice au vs.length cu) (by simp) (by rw [← HUL.out]; simp)
                  have ho8 := ha8.ho
                  rw [List.length_append] at ho8
                  have hsz8 := hr8.size
                  refine anyT_one 17 (by kernel_rfl) rfl (by rfl) (fun K' hK' => ?_)
                  refine wp_append_lies _ (.tmp 118) (.tmp 124) 58 rfl (N + 2) 9 iS _ 1 16 Tryz.underlying58 hiS hS0 hS1 hS2 rfl (by decide) (.slice au vs.length cu) vs.length (sV vs) (by rfl) hu8 ⟨wd.heap.size, 0, none⟩ 1 1 [.string ⟨vl.toArray⟩] (by rfl) rfl (World.news_of_block (alloc_at _ _ _ rfl)) (by simp [Value.oneCell']) (by decide) (by unfold maxLen; omega) (by omega) (by omega) (wd.heap.size + 1) (by simp) ?_
                  intro gN cN w12 ho12 hg12 hat12 hlt12
                  have hr12 := hr8.grown hu8 (by decide) hg12
                  have hoA12 := gow_far hu8 ho8 (by decide) hg12
                  have ha13 := AG.put HUL.out ha8 hg12 ho12 (by
                    rcases hat12 with h | h
                    · exact .inl h.symm
                    · right
                      intro k' hk'
                      have : gN = k' := Option.some.inj hk'
                      simp
                      omega)
                  have hr13 := hr12.setO (i := J * 2 + 1) hoA12 (by decide) (.slice (some ⟨gN, 0, none⟩) (vs.length + 1) cN)
                  obtain ⟨qA, fA⟩ := own_cell hoA12 (flatA_get _ _ init.length (nm, vs) (.slice au vs.length cu) (by simp) (by rw [← HUL.out]; simp)).2
                  rw [HJ.out] at qA fA ha13
                  have s12 : w12.cell? ⟨N + 1, 4, none⟩ = some (.slice (some ⟨gA, 0, none⟩) (J + 1) cA) ∧ w12.cell? ⟨gA, J * 2 + 1, none⟩ = some (.slice au vs.length cu) ∧ w12.cell? ⟨g, 12 + k * 3 + 1, none⟩ = some (.string ⟨vl.toArray⟩) := by
                    have h := hr12
                    unfold AF at h
                    exact ⟨(ten_cells h.hc).1.2.2.2.2.1, qA, (hPC.out _ _ hr12).2⟩
                  refine hK' _ _ (.inr s12) ?_; clear hK' K'
                  clear hr8 ha8 s8 s0' hbC ho8 hu8 hrd had hg12 ho12 hat12 hoA12 hr12
                  refine anyT_one 18 (by kernel_rfl) rfl (by rfl) (fun K' hK' => ?_); go_simp; refine hK' _ _ (.inr s12) ?_; clear hK' K'
                  refine anyT_one 19 (by kernel_rfl) rfl (by rfl) (fun K' hK' => ?_); go_simp; refine hK' _ _ (.inr s12) ?_; clear hK' K'
                  refine anyT_one 20 (by kernel_rfl) rfl (by rfl) (fun K' hK' => ?_); go_simp; refine hK' _ _ (.inl (by rfl)) ?_; clear hK' K'
                  clear s12 qA fA hlt12
                  generalize w12.setCell ⟨gA, J * 2 + 1, none⟩ (.slice (some ⟨gN, 0, none⟩) (vs.length + 1) cN) = w13 at hr13 ha13 ⊢
                  refine anyT_done (by kernel_rfl) ?_ _
                  go_wp2_with fail
                  go_roundw
                  case rel =>
                    refine ⟨k + 1, init ++ [(nm, vs ++ [vl])], _, _, by go_num, by omega, hr13, ha13, ?_, ?_, ?_⟩
                    · rw [← HPUT.out]
                      exact HADD.out
                    · rw [List.length_append, HJ.out]
                      simp
                      omega
                    · intro x hx
                      have h1 := HVI.out
                      have h2 := HVS.out
                      simp only [List.mem_append, List.mem_singleton] at hx
                      rcases hx with hx | rfl
                      · have := h1 x hx
                        omega
                      · simp
                        omega
                  case measure => simp [RowKit.intOf]; omega
                · obtain rfl : k = t.length := by omega
                  have i5 : decide (((t.length : Nat) : Int) < (t.length : Int)) = false := decide_eq_false (by omega)
                  rw [List.drop_of_length_le (Nat.le_refl _), List.map_nil, addF] at hadd
                  have hrf2 : recF (s0 :: s1 :: s2 :: s3 :: t) = ⟨T0, T1, T2, 0, acc, [], [], [], false, false⟩ := by
                    rw [HRF.out, HFI.out, hadd]
                    simp
                  clear HRF hadd hvl
                  have HRF := Lib.hid hrf2
                  unfold AF at hrs
                  have hao := hag.ao
                  clear hrf2 hag
                  obtain ⟨⟨c0, c1, c2, c3, c4, c5, c6, c7, c8, c9⟩, _⟩ := ten_cells hrs.hc
                  obtain ⟨⟨n0, n1, n2, n3, n4, n5, n6, n7, n8, n9⟩, z0, z1, z2, z3, z4, z5, z6, z7, z8, z9⟩ := ten_cells hrs.hr
                  have hfin := hrs.hb.trans (put10_below wr N (.string ⟨T0.toArray⟩) (.string ⟨T1.toArray⟩) (.string ⟨T2.toArray⟩) (.int .i64 0) (.slice aA acc.length cA) (.slice none 0 0) (.string ⟨#[]⟩) (.string ⟨#[]⟩) (.bool false) (.bool false))
                  have hgr := put10_grown wr N (.string ⟨T0.toArray⟩) (.string ⟨T1.toArray⟩) (.string ⟨T2.toArray⟩) (.int .i64 0) (.slice aA acc.length cA) (.slice none 0 0) (.string ⟨#[]⟩) (.string ⟨#[]⟩) (.bool false) (.bool false)
                  have HFA := Lib.hid (show AO N (put10 wr N (.string ⟨T0.toArray⟩) (.string ⟨T1.toArray⟩) (.string ⟨T2.toArray⟩) (.int .i64 0) (.slice aA acc.length cA) (.slice none 0 0) (.string ⟨#[]⟩) (.string ⟨#[]⟩) (.bool false) (.bool false)) (.slice aA acc.length cA) _ from (hao).g hgr)
                  have HFM := Lib.hid (show MO N (put10 wr N (.string ⟨T0.toArray⟩) (.string ⟨T1.toArray⟩) (.string ⟨T2.toArray⟩) (.int .i64 0) (.slice aA acc.length cA) (.slice none 0 0) (.string ⟨#[]⟩) (.string ⟨#[]⟩) (.bool false) (.bool false)) (.slice none 0 0) _ from (MO.nil (N + 2) wr).g hgr)
                  clear hgr hrs
                  go_wp2_with fail
                  refine bodyPost_ret (v := .agg #[.string ⟨T0.toArray⟩, .string ⟨T1.toArray⟩, .string ⟨T2.toArray⟩, .int .i64 0, .slice aA acc.length cA, .slice none 0 0, .string ⟨#[]⟩, .string ⟨#[]⟩, .bool false, .bool false]) (by simp [results, Tryz.results34, go_sem, n0, n1, n2, n3, n4, n5, n6, n7, n8, n9]) rfl ?_
                  rw [← HPR.out]
                  unfold RecP
                  rw [HRF.out, HNN.out]
                  exact ⟨⟨_, _, rfl, HFA.out, HFM.out⟩, hfin⟩
            · go_wp2_with fail
              clear c3
              obtain ⟨iM, hiM, hM0, hM1, hM2⟩ := info_parts Tryz.infoMod
              obtain ⟨iS, hiS, hS0, hS1, hS2⟩ := info_parts Tryz.infoString
              obtain ⟨FIN, hFIN⟩ : ∃ F, modF t [] false = F := ⟨_, rfl⟩
              have HFI := Lib.hid hFIN
              clear hFIN
              go_loopw [9, 10] (fun ov i wq => ∃ (k : Nat) (o : Bool) (acc : List Md) (us : List Value) (vM : Value), ov = .bool o ∧ i = .int .i64 (k : Int) ∧ k ≤ t.length ∧ RS N w (MF T0 T1 T2 vM) (.slice (some ⟨g, 0, none⟩) (t.length + 4) cp) (t.length + 4) ((s0 :: s1 :: s2 :: s3 :: t).map splitR) wq ∧ MG (N + 2) wq vM acc us ∧ modF (t.drop k) acc o = FIN ∧ acc.length ≤ k ∧ (∀ x ∈ acc, x.2.2.length ≤ k) ∧ (o = true → acc ≠ [])) (fun _ i _ => t.length - (RowKit.intOf i).toNat)
              case atStart => exact ⟨0, false, [], [], .slice none 0 0, rfl, rfl, by omega, hrs, MG.nil _ _, HFI.out, by simp, (fun x hx => by cases hx), (fun h => by cases h)⟩
              case round =>
                clear hrs
                obtain ⟨k, o, acc, us, vM, rfl, rfl, hk, hrs, hag, hadd, hal, hvl, hoa⟩ := hrel
                obtain ⟨aM, cM, hvM⟩ := gl_of hag.ho
                subst hvM
                by_cases hkl : k < t.length
                · have hne : t ≠ [] := by intro e; rw [e] at hkl; simp at hkl
                  obtain ⟨rfl, rfl⟩ := hoff hne
                  obtain ⟨x, hx⟩ : ∃ x, t[k]? = some x := ⟨t[k], List.getElem?_eq_getElem hkl⟩
                  obtain ⟨nm, hnm⟩ : ∃ x', (snd2 x).1 = x' := ⟨_, rfl⟩
                  obtain ⟨vl, hvv⟩ : ∃ x', (snd2 x).2 = x' := ⟨_, rfl⟩
                  have hPC := Lib.hid (fun (xs : Array Value) (wq : World) (h : RS N w xs (.slice (some ⟨g, 0, none⟩) (t.length + 4) cp) (t.length + 4) ((s0 :: s1 :: s2 :: s3 :: t).map splitR) wq) => (show wq.cell? ⟨g, 12 + k * 3, none⟩ = some (.string ⟨nm.toArray⟩) ∧ wq.cell? ⟨g, 12 + k * 3 + 1, none⟩ = some (.string ⟨vl.toArray⟩) by rw [← hnm, ← hvv]; exact h.pc hx))
                  have hql : wr.cell? ⟨gl, ol + 4 + k, none⟩ = some (.string ⟨x.toArray⟩) := by
                    obtain ⟨al', cl', e1, _, hr⟩ := HH.out
                    obtain ⟨g', o', e2, hcc⟩ := hr (by simp)
                    rw [e2] at e1
                    cases e1
                    have hc0 := hcc (4 + k) x (by rw [show 4 + k = k + 1 + 1 + 1 + 1 by omega]; simpa using hx)
                    rw [← Nat.add_assoc] at hc0
                    have hlt := lt_of_cell hc0
                    rw [← HNN.out] at hrs
                    exact (hrs.hb.cell hlt).trans hc0
                  have hdr : t.drop k = x :: t.drop (k + 1) := by
                    obtain ⟨hlt, e⟩ := List.getElem?_eq_some_iff.1 hx
                    rw [List.drop_eq_getElem_cons hlt, e]
                  rw [hdr, modF, hnm, hvv] at hadd
                  have HVL := Lib.hid hvl
                  have i5 : decide ((k : Int) < (t.length : Int)) = true := decide_eq_true (by omega)
                  have i6 : (k : Int) < (t.length : Int) := by omega
                  obtain ⟨n, hn⟩ : ∃ n, acc.length = n := ⟨_, rfl⟩
                  have HNA := Lib.hid hn
                  rw [hn] at hrs hal
                  have hs' := hrs
                  unfold MF at hs'
                  have c5 := (ten_cells hs'.hc).1.2.2.2.2.2.1
                  have f5 := Lib.frozen_of_heap hs'.hc 5
                  clear hs' hnm hvv hx hdr hvl hn hne
                  by_cases hxq : x = [45]
                  · have b1 : (x == [45]) = true := by simpa using hxq
                    rw [if_pos hxq] at hadd
                    have HADD := Lib.hid hadd
                    have HAG : Hid (MG (N + 2) wr (.slice aM n cM) acc us) := Lib.hid (by rw [← HNA.out]; exact hag)
                    clear hadd hag hoa hxq
                    go_wp2_with fail
                    go_roundw
                    case rel => exact ⟨k + 1, false, acc, us, _, rfl, by go_num, by omega, hrs, HAG.out, HADD.out, by have := HNA.out; omega, (fun y hy => Nat.le_trans (HVL.out y hy) (by omega)), (fun h => by cases h)⟩
                    case measure => simp [RowKit.intOf]; omega
                  · have b1 : (x == [45]) = false := by simpa using hxq
                    rw [if_neg hxq] at hadd
                    clear hxq
                    cases o with
                    | false =>
                      rw [if_neg (by decide)] at hadd
                      have HADD := Lib.hid hadd
                      clear hadd hoa
                      obtain ⟨_, qv⟩ := hPC.out _ _ hrs
                      go_wp2_with fail
                      have hbC : Below wr.heap.size wr (wr.alloc (.cells #[.int .i64 (-1), .string ⟨vl.toArray⟩, .slice none 0 0] 182)) := (Below.refl _ _).alloc (Nat.le_refl _) _
                      have hr8 := hrs.below hbC
                      have ha8 := hag.below hbC
                      have hG8 : (wr.alloc (.cells #[.int .i64 (-1), .string ⟨vl.toArray⟩, .slice none 0 0] 182)).heap[wr.heap.size]? = some (.cells #[.int .i64 (-1), .string ⟨vl.toArray⟩, .slice none 0 0] 182 (0, 0)) := alloc_at _ _ _ rfl
                      have hvB : ∀ b, (Value.slice aM acc.length cM).ownBlock = some b → b < wr.heap.size := fun b hb => (hag.ho.lt b hb).2
                      have hNG := hrs.size
                      rw [HNA.out] at ha8 hvB
                      clear hrs hag hbC qv c5 f5 hql
                      generalize wr.alloc (.cells #[.int .i64 (-1), .string ⟨vl.toArray⟩, .slice none 0 0] 182) = w8 at hr8 ha8 hG8 ⊢
                      generalize wr.heap.size = G at hG8 hvB hNG ⊢
                      go_loopw [13] (fun q wq => ∃ j : Nat, q = .int .i64 (j : Int) ∧ j ≤ 3 ∧ RS N w (MF T0 T1 T2 (.slice aM n cM)) (.slice (some ⟨g, 0, none⟩) (t.length + 4) cp) (t.length + 4) ((s0 :: s1 :: s2 :: s3 :: t).map splitR) wq ∧ MG (N + 2) wq (.slice aM n cM) acc us ∧ wq.heap[G]? = some (.cells #[.int .i64 (opn nm j), .string ⟨vl.toArray⟩, .slice none 0 0] 182 (0, 0))) (fun q _ => 3 - (RowKit.intOf q).toNat)
                      case atStart => exact ⟨0, rfl, by omega, hr8, ha8, hG8⟩
                      case round =>
                        clear hr8 ha8 hG8
                        obtain ⟨j, rfl, hj3, hrs, hag, hG⟩ := hrel
                        by_cases hj : j < 3
                        · have i7 : decide ((j : Int) < 3) = true := decide_eq_true (by omega)
                          have q3 := (hPC.out _ _ hrs).1
                          go_wp2_with fail
                          refine region_anyT (S := fun w' => w'.cell? ⟨g, 12 + k * 3, none⟩ = some (.string ⟨nm.toArray⟩)) (st := 9) (by kernel_rfl) ?_
                          have s0' : wr.drew.cell? ⟨g, 12 + k * 3, none⟩ = some (.string ⟨nm.toArray⟩) := q3
                          have hrd := hrs.drew
                          have had := hag.dr1
                          have hGd : wr.drew.heap[G]? = some (.cells #[.int .i64 (opn nm j), .string ⟨vl.toArray⟩, .slice none 0 0] 182 (0, 0)) := hG
                          clear hrs hag hG q3
                          generalize wr.drew = wd at hrd had hGd s0' ⊢
                          refine anyT_free 1 (.int .i64 (j : Int)) rfl (by decide) (by kernel_rfl) (by kernel_rfl) (by kernel_rfl) (fun _ _ _ h => h) (by rfl) (fun w' => by go_simp) (.inr s0') (fun K' hK' => ?_); go_simp; refine hK' _ _ ?_; clear hK' K'
                          refine anyT_free 4 (.slice (some ⟨g, 12, none⟩) t.length cp') rfl (by decide) (by kernel_rfl) (by kernel_rfl) (by kernel_rfl) (fun _ _ _ h => h) (by rfl) (fun w' => by go_simp) (.inr s0') (fun K' hK' => ?_); go_simp; refine hK' _ _ ?_; clear hK' K'
                          refine anyT_free 5 (.int .i64 (k : Int)) rfl (by decide) (by kernel_rfl) (by kernel_rfl) (by kernel_rfl) (fun _ _ _ h => h) (by rfl) (fun w' => by go_simp) (.inr s0') (fun K' hK' => ?_); go_simp; refine hK' _ _ ?_; clear hK' K'
                          refine anyT_free 6 (.pointer (some ⟨g, 12 + k * 3, none⟩)) rfl (by decide) (by kernel_rfl) (by kernel_rfl) (by kernel_rfl) (fun _ _ _ h => h) (by rfl) (fun w' => by go_simp) (.inr s0') (fun K' hK' => ?_); go_simp; refine hK' _ _ ?_; clear hK' K'
                          refine anyT_free 7 (.pointer (some ⟨g, 12 + k * 3, none⟩)) rfl (by decide) (by kernel_rfl) (by kernel_rfl) (by kernel_rfl) (fun _ _ _ h => h) (by rfl) (fun w' => by go_simp) (.inr s0') (fun K' hK' => ?_); go_simp; refine hK' _ _ ?_; clear hK' K'
                          refine anyT_take 8 (.string ⟨nm.toArray⟩) rfl (by decide) rfl (by kernel_rfl) (by kernel_rfl) (by kernel_rfl) (by kernel_rfl) (fun _ _ _ h => h) (by rfl) (fun w' hS => by go_simp) (by rfl) s0' (fun K' hK' => ?_); go_simp; refine hK' _ _ ?_; clear hK' K'
                          refine anyT_one 0 (by kernel_rfl) rfl (by rfl) (fun K' hK' => ?_); go_simp
                          refine Calls.mono (show Calls _ _ _ _ _ from ops_any wd) ?_
                          rintro e w5 ⟨rfl, hw5⟩
                          have hb5 : Below wd.heap.size wd w5 := by rw [hw5]; exact (Below.refl _ _).alloc (Nat.le_refl _) _
                          have hr5 := hrd.below hb5
                          have ha5 := had.below hb5
                          have hG5 := (hb5.block G (Array.getElem?_eq_some_iff.1 hGd).1).trans hGd
                          have s5 := (hb5.cell (lt_of_cell s0')).trans s0'
                          obtain ⟨KW, hKW⟩ : ∃ K, opW (j : Int) = K := ⟨_, rfl⟩
                          have kc : w5.cell? ⟨wd.heap.size, j, none⟩ = some (.string ⟨KW.toArray⟩) := by
                            rw [hw5, Lib.cell_of_heap (alloc_at _ _ _ rfl), ← hKW]
                            have : j = 0 ∨ j = 1 ∨ j = 2 := by omega
                            rcases this with rfl | rfl | rfl <;> rfl
                          have i8 : (j : Int) < 3 := by omega
                          generalize wd.heap.size = G' at kc hw5 hb5 ⊢
                          clear hw5 hb5 s0' hrd had hGd
                          refine hK' _ _ (.inr s5) ?_; clear hK' K'
                          refine anyT_one 2 (by kernel_rfl) rfl (by rfl) (fun K' hK' => ?_); go_simp; refine hK' _ _ (.inr s5) ?_; clear hK' K'
                          refine anyT_one 3 (by kernel_rfl) rfl (by rfl) (fun K' hK' => ?_); go_simp; refine hK' _ _ (.inr s5) ?_; clear hK' K'
                          by_cases hq : KW = nm
                          · have bq : (KW == nm) = true := by simpa using hq
                            have hkp : opn nm (j + 1) = (j : Int) := by simp only [opn]; rw [hKW, if_pos hq]
                            have HKP := Lib.hid hkp
                            clear hKW hq hkp kc
                            refine anyT_one 9 (by kernel_rfl) rfl (by rfl) (fun K' hK' => ?_); go_simp; refine hK' _ _ (.inl (by rfl)) ?_; clear hK' K'
                            refine anyT_done (by kernel_rfl) ?_ _
                            have g0 : w5.cell? ⟨G, 0, none⟩ = some (.int .i64 (opn nm j)) := Lib.cell_of_heap hG5 0
                            have gf : w5.frozen? ⟨G, 0, none⟩ = false := Lib.frozen_of_heap hG5 0
                            go_wp2_with fail
                            go_roundw
                            case rel =>
                              refine ⟨j + 1, by go_num, by omega, hr5.setT (i := 0) hG5 (by decide) (by decide) (by omega) _, ha5.setT (i := 0) hG5 (by decide) hvB, ?_⟩
                              rw [HKP.out]
                              exact setCell_at hG5
                            case measure => simp [RowKit.intOf]; omega
                          · have bq : (KW == nm) = false := by simpa using hq
                            have hkp : opn nm (j + 1) = opn nm j := by simp only [opn]; rw [hKW, if_neg hq]
                            have HKP := Lib.hid hkp
                            clear hKW hq hkp kc
                            refine anyT_one 9 (by kernel_rfl) rfl (by rfl) (fun K' hK' => ?_); go_simp; refine hK' _ _ (.inl (by rfl)) ?_; clear hK' K'
                            refine anyT_done (by kernel_rfl) ?_ _
                            go_wp2_with fail
                            go_roundw
                            case rel =>
                              refine ⟨j + 1, by go_num, by omega, hr5, ha5, ?_⟩
                              rw [HKP.out]
                              exact hG5
                            case measure => simp [RowKit.intOf]; omega
                        · obtain rfl : j = 3 := by omega
                          rw [opn_three] at hG
                          obtain ⟨OP, hOP⟩ : ∃ o, opN nm = o := ⟨_, rfl⟩
                          rw [hOP] at hG HADD
                          clear hOP
                          have i7 : decide ((3 : Int) < 3) = false := by decide
                          have g0 : wr.cell? ⟨G, 0, none⟩ = some (.int .i64 OP) := Lib.cell_of_heap hG 0
                          have g1 : wr.cell? ⟨G, 1, none⟩ = some (.string ⟨vl.toArray⟩) := Lib.cell_of_heap hG 1
                          have g2 : wr.cell? ⟨G, 2, none⟩ = some (.slice none 0 0) := Lib.cell_of_heap hG 2
                          have hs' := hrs
                          unfold MF at hs'
                          have c5 := (ten_cells hs'.hc).1.2.2.2.2.2.1
                          have hbC : Below wr.heap.size wr (wr.alloc (.cells #[.int .i64 (OP), .string ⟨vl.toArray⟩, .slice none 0 0] 182)) := (Below.refl _ _).alloc (Nat.le_refl _) _
                          have hr8 := hrs.below hbC
                          have ha8 : MG (N + 2) (wr.alloc (.cells #[.int .i64 (OP), .string ⟨vl.toArray⟩, .slice none 0 0] 182)) (.slice aM acc.length cM) acc us := by
                            rw [HNA.out]
                            exact hag.below hbC
                          have ho8 := ha8.ho
                          rw [HNA.out] at ho8
                          have hsz8 := hr8.size
                          clear hs' hrs hag hbC
                          go_wp2_with (at_builtin; refine wpList_append_lies _ rfl (.tmp 191) (.tmp 193) 45 rfl (N + 2) 182 iM _ 3 48 Tryz.underlying45 hiM hM0 hM1 hM2 rfl (by decide) (.slice aM n cM) n (flatM acc us) (by rfl) ho8 ⟨wr.heap.size, 0, none⟩ 1 1 [.int .i64 OP, .string ⟨vl.toArray⟩, .slice none 0 0] (by rfl) rfl (World.news_of_block (alloc_at _ _ _ rfl)) (by simp [Value.oneCell']) (by decide) (by unfold maxLen; omega) (by omega) (by omega) (wr.heap.size + 1) (by simp) ?_)
                          intro gN cN w12 ho12 hg12 _ hlt12
                          have hr12 := hr8.grown ho8 (by decide) hg12
                          have hg13 := hg12
                          rw [← HNA.out] at hg13
                          have ha12 := ha8.new (v' := .slice (some ⟨gN, 0, none⟩) (n + 1) cN) (typ := vl) (op := OP) hg13 (by rw [HNA.out]; exact ho12)
                          have hr13 := hr12.set 5 (.slice (some ⟨gN, 0, none⟩) (n + 1) cN)
                          have ha13 := ha12.setN (i := 5) (x := .slice (some ⟨gN, 0, none⟩) (n + 1) cN)
                          have hs' := hr12
                          unfold MF at hs'
                          have c5' := (ten_cells hs'.hc).1.2.2.2.2.2.1
                          have f5' : w12.frozen? ⟨N + 1, 5, none⟩ = false := Lib.frozen_of_heap hs'.hc 5
                          clear hs' hr8 ha8 ho8 hr12 ha12 hg12 hg13 ho12 hlt12 c5 g0 g1 g2
                          go_wp2_with fail
                          go_roundw
                          case rel =>
                            refine ⟨k + 1, true, acc ++ [(OP, vl, [])], us ++ [.slice none 0 0], _, rfl, by go_num, by omega, hr13, ha13, HADD.out, ?_, ?_, fun _ => by simp⟩
                            · rw [List.length_append, HNA.out]
                              simp
                              omega
                            · intro y hy
                              simp only [List.mem_append, List.mem_singleton] at hy
                              rcases hy with hy | rfl
                              · exact Nat.le_trans (HVL.out y hy) (by omega)
                              · simp
                          case measure => simp [RowKit.intOf]; omega
                    | true =>
                      rw [if_pos rfl] at hadd
                      obtain ⟨init, ⟨op, ty, vs⟩, hacc⟩ : ∃ a b, acc = a ++ [b] := by
                        rcases List.eq_nil_or_concat acc with h0 | ⟨a, b, h0⟩
                        · exact absurd h0 (hoa rfl)
                        · exact ⟨a, b, by rw [h0, List.concat_eq_append]⟩
                      obtain ⟨usI, u, hus⟩ : ∃ a b, us = a ++ [b] := by
                        rcases List.eq_nil_or_concat us with h0 | ⟨a, b, h0⟩
                        · exfalso
                          have := hag.hl
                          rw [h0, hacc] at this
                          simp at this
                        · exact ⟨a, b, by rw [h0, List.concat_eq_append]⟩
                      have hput : putM vl acc = init ++ [(op, ty, vs ++ [vl])] := by
                        rw [hacc]
                        simp [putM]
                      have hul : usI.length = init.length := by
                        have := hag.hl
                        rw [hus, hacc] at this
                        simpa using this
                      have hnn : n = init.length + 1 := by rw [← HNA.out, hacc]; simp
                      have hvs : vs.length ≤ k := HVL.out (op, ty, vs) (by rw [hacc]; simp)
                      have hvi : ∀ x ∈ init, x.2.2.length ≤ k := fun x hx => HVL.out x (by rw [hacc]; simp [hx])
                      rw [hput] at hadd
                      have HADD := Lib.hid hadd
                      rw [HNA.out, hacc, hus] at hag
                      obtain ⟨J, hJ⟩ : ∃ J, init.length = J := ⟨_, rfl⟩
                      have HJ := Lib.hid hJ
                      rw [hJ] at hnn
                      subst hnn
                      have ho := hag.ho
                      rw [List.length_append] at ho
                      obtain ⟨gA, hvA⟩ : ∃ gA, aM = some ⟨gA, 0, none⟩ := by
                        rcases id ho.2 with ⟨_, h0⟩ | ⟨gA, cA, curA, hvA, _⟩
                        · simp at h0
                        · cases hvA
                          exact ⟨gA, rfl⟩
                      subst hvA
                      obtain ⟨cA, hcA⟩ : ∃ cA, cM = cA := ⟨_, rfl⟩
                      subst hcA
                      change wr.ownsRow (N + 2) 182 3 (.slice (some ⟨gA, 0, none⟩) (J + 1) cM) (init.length + 1) (flatM (init ++ [(op, ty, vs)]) (usI ++ [u])) at ho
                      rw [hJ] at ho
                      have hsu := hag.hs init.length (op, ty, vs) u (by simp) (by rw [← hul]; simp)
                      change wr.ownsRow (N + 2) 9 1 u vs.length (sV vs) at hsu
                      obtain ⟨au, cu, hue⟩ := gl_of hsu
                      subst hue
                      obtain ⟨qA, fA⟩ := own_cell ho (flatM_get _ _ init.length (op, ty, vs) (.slice au vs.length cu) (by simp) (by rw [← hul]; simp)).2.2
                      rw [hJ] at qA fA
                      obtain ⟨_, qv⟩ := hPC.out _ _ hrs
                      have hJn : J ≤ k := by omega
                      clear hoa
                      have i1 : (0 : Int) ≤ (J : Int) := by omega
                      have i2 : (J : Int) < (J : Int) + 1 := by omega
                      have i3 : (J : Int) + 1 - 1 = (J : Int) := by omega
                      have i4 : IntKind.i64.wrap (J : Int) = (J : Int) := wraps_i64 _ (by omega) (by omega)
                      have HUL := Lib.hid hul
                      have HPUT := Lib.hid hput
                      have HVS := Lib.hid hvs
                      have HVI := Lib.hid hvi
                      have hvsk : vs.length ≤ 1000000 := by omega
                      clear hul hput hvs hvi ho hsu fA hJ hadd hacc hus
                      have i7 : (((J + 1 : Nat) : Int)) = (J : Int) + 1 := by omega
                      go_wp2_with fail
                      refine region_anyT (S := fun w' => w'.cell? ⟨N + 1, 5, none⟩ = some (.slice (some ⟨gA, 0, none⟩) (J + 1) cM) ∧ w'.cell? ⟨gA, J * 3 + 2, none⟩ = some (.slice au vs.length cu) ∧ w'.cell? ⟨g, 12 + k * 3 + 1, none⟩ = some (.string ⟨vl.toArray⟩)) (st := 20) (by kernel_rfl) ?_
                      have s0' : wr.drew.cell? ⟨N + 1, 5, none⟩ = some (.slice (some ⟨gA, 0, none⟩) (J + 1) cM) ∧ wr.drew.cell? ⟨gA, J * 3 + 2, none⟩ = some (.slice au vs.length cu) ∧ wr.drew.cell? ⟨g, 12 + k * 3 + 1, none⟩ = some (.string ⟨vl.toArray⟩) := ⟨c5, qA, qv⟩
                      have hrd := hrs.drew
                      have had := hag.dr1
                      clear hrs hag c5 qA qv f5
                      generalize wr.drew = wd at hrd had s0' ⊢
                      refine anyT_free 0 (.pointer (some ⟨N + 1, 5, none⟩)) rfl (by decide) (by kernel_rfl) (by kernel_rfl) (by kernel_rfl) (fun _ _ _ h => h) (by rfl) (fun w' => by go_simp) (.inr s0') (fun K' hK' => ?_); go_simp; refine hK' _ _ ?_; clear hK' K'
                      refine anyT_free 2 (.int .i64 ((J : Int) + 1)) rfl (by decide) (by kernel_rfl) (by kernel_rfl) (by kernel_rfl) (fun _ _ _ h => h) (by rfl) (fun w' => by go_simp) (.inr s0') (fun K' hK' => ?_); go_simp; refine hK' _ _ ?_; clear hK' K'
                      refine anyT_free 3 (.int .i64 (J : Int)) rfl (by decide) (by kernel_rfl) (by kernel_rfl) (by kernel_rfl) (fun _ _ _ h => h) (by rfl) (fun w' => by go_simp) (.inr s0') (fun K' hK' => ?_); go_simp; refine hK' _ _ ?_; clear hK' K'
                      refine anyT_free 4 (.pointer (some ⟨N + 1, 5, none⟩)) rfl (by decide) (by kernel_rfl) (by kernel_rfl) (by kernel_rfl) (fun _ _ _ h => h) (by rfl) (fun w' => by go_simp) (.inr s0') (fun K' hK' => ?_); go_simp; refine hK' _ _ ?_; clear hK' K'
                      refine anyT_free 6 (.int .i64 ((J : Int) + 1)) rfl (by decide) (by kernel_rfl) (by kernel_rfl) (by kernel_rfl) (fun _ _ _ h => h) (by rfl) (fun w' => by go_simp) (.inr s0') (fun K' hK' => ?_); go_simp; refine hK' _ _ ?_; clear hK' K'
                      refine anyT_free 7 (.int .i64 (J : Int)) rfl (by decide) (by kernel_rfl) (by kernel_rfl) (by kernel_rfl) (fun _ _ _ h => h) (by rfl) (fun w' => by go_simp) (.inr s0') (fun K' hK' => ?_); go_simp; refine hK' _ _ ?_; clear hK' K'
                      refine anyT_free 11 (.slice (some ⟨g, 12, none⟩) t.length cp') rfl (by decide) (by kernel_rfl) (by kernel_rfl) (by kernel_rfl) (fun _ _ _ h => h) (by rfl) (fun w' => by go_simp) (.inr s0') (fun K' hK' => ?_); go_simp; refine hK' _ _ ?_; clear hK' K'
                      refine anyT_free 12 (.int .i64 (k : Int)) rfl (by decide) (by kernel_rfl) (by kernel_rfl) (by kernel_rfl) (fun _ _ _ h => h) (by rfl) (fun w' => by go_simp) (.inr s0') (fun K' hK' => ?_); go_simp; refine hK' _ _ ?_; clear hK' K'
                      refine anyT_free 13 (.pointer (some ⟨g, 12 + k * 3, none⟩)) rfl (by decide) (by kernel_rfl) (by kernel_rfl) (by kernel_rfl) (fun _ _ _ h => h) (by rfl) (fun w' => by go_simp) (.inr s0') (fun K' hK' => ?_); go_simp; refine hK' _ _ ?_; clear hK' K'
                      refine anyT_free 14 (.pointer (some ⟨g, 12 + k * 3 + 1, none⟩)) rfl (by decide) (by kernel_rfl) (by kernel_rfl) (by kernel_rfl) (fun _ _ _ h => h) (by rfl) (fun w' => by go_simp) (.inr s0') (fun K' hK' => ?_); go_simp; refine hK' _ _ ?_; clear hK' K'
                      refine anyT_take 1 (.slice (some ⟨gA, 0, none⟩) (J + 1) cM) rfl (by decide) rfl (by kernel_rfl) (by kernel_rfl) (by kernel_rfl) (by kernel_rfl) (fun _ _ _ h => h) (by rfl) (fun w' hS => by obtain ⟨q0, q1, q2⟩ := hS; go_simp) (by rfl) s0' (fun K' hK' => ?_); go_simp; refine hK' _ _ ?_; clear hK' K'
                      refine anyT_take 5 (.slice (some ⟨gA, 0, none⟩) (J + 1) cM) rfl (by decide) rfl (by kernel_rfl) (by kernel_rfl) (by kernel_rfl) (by kernel_rfl) (fun _ _ _ h => h) (by rfl) (fun w' hS => by obtain ⟨q0, q1, q2⟩ := hS; go_simp) (by rfl) s0' (fun K' hK' => ?_); go_simp; refine hK' _ _ ?_; clear hK' K'
                      refine anyT_free 8 (.pointer (some ⟨gA, J * 3, none⟩)) rfl (by decide) (by kernel_rfl) (by kernel_rfl) (by kernel_rfl) (fun _ _ _ h => h) (by rfl) (fun w' => by go_simp) (.inr s0') (fun K' hK' => ?_); go_simp; refine hK' _ _ ?_; clear hK' K'
                      refine anyT_free 9 (.pointer (some ⟨gA, J * 3 + 2, none⟩)) rfl (by decide) (by kernel_rfl) (by kernel_rfl) (by kernel_rfl) (fun _ _ _ h => h) (by rfl) (fun w' => by go_simp) (.inr s0') (fun K' hK' => ?_); go_simp; refine hK' _ _ ?_; clear hK' K'
                      refine anyT_take 10 (.slice au vs.length cu) rfl (by decide) rfl (by kernel_rfl) (by kernel_rfl) (by kernel_rfl) (by kernel_rfl) (fun _ _ _ h => h) (by rfl) (fun w' hS => by obtain ⟨q0, q1, q2⟩ := hS; go_simp) (by rfl) s0' (fun K' hK' => ?_); go_simp; refine hK' _ _ ?_; clear hK' K'
                      refine anyT_take 15 (.string ⟨vl.toArray⟩) rfl (by decide) rfl (by kernel_rfl) (by kernel_rfl) (by kernel_rfl) (by kernel_rfl) (fun _ _ _ h => h) (by rfl) (fun w' hS => by obtain ⟨q0, q1, q2⟩ := hS; go_simp) (by rfl) s0' (fun K' hK' => ?_); go_simp; refine hK' _ _ ?_; clear hK' K'
                      have hbC : Below wd.heap.size wd (wd.alloc (.cells #[.string ⟨vl.toArray⟩] 9)) := (Below.refl _ _).alloc (Nat.le_refl _) _
                      have hr8 := hrd.below hbC
                      have ha8 := had.below hbC
                      have s8 := And.intro ((hbC.cell (lt_of_cell s0'.1)).trans s0'.1) (And.intro ((hbC.cell (lt_of_cell s0'.2.1)).trans s0'.2.1) ((hbC.cell (lt_of_cell s0'.2.2)).trans s0'.2.2))
                      refine anyT_one 16 (by kernel_rfl) rfl (by rfl) (fun K' hK' => ?_); go_simp; refine hK' _ _ (.inr s8) ?_; clear hK' K'
                      have hu8 := ha8.hs init.length (op, ty, vs) (.slice au vs.length cu) (by simp) (by rw [← HUL.out]; simp)
                      have ho8 := ha8.ho
                      rw [List.length_append, HJ.out] at ho8
                      have hsz8 := hr8.size
                      refine anyT_one 17 (by kernel_rfl) rfl (by rfl) (fun K' hK' => ?_)
                      refine wp_append_lies _ (.tmp 149) (.tmp 155) 58 rfl (N + 2) 9 iS _ 1 16 Tryz.underlying58 hiS hS0 hS1 hS2 rfl (by decide) (.slice au vs.length cu) vs.length (sV vs) (by rfl) hu8 ⟨wd.heap.size, 0, none⟩ 1 1 [.string ⟨vl.toArray⟩] (by rfl) rfl (World.news_of_block (alloc_at _ _ _ rfl)) (by simp [Value.oneCell']) (by decide) (by unfold maxLen; omega) (by omega) (by omega) (wd.heap.size + 1) (by simp) ?_
                      intro gN cN w12 ho12 hg12 hat12 hlt12
                      have hr12 := hr8.grown hu8 (by decide) hg12
                      have hoA12 := gow_far hu8 ho8 (by decide) hg12
                      have h8 := ha8
                      rw [← HJ.out] at h8
                      have ha13 := MG.put HUL.out h8 hg12 ho12 (by
                        rcases hat12 with h | h
                        · exact .inl h.symm
                        · right
                          intro k' hk'
                          have : gN = k' := Option.some.inj hk'
                          simp
                          omega)
                      have hr13 := hr12.setO (i := J * 3 + 2) hoA12 (by decide) (.slice (some ⟨gN, 0, none⟩) (vs.length + 1) cN)
                      obtain ⟨qA, fA⟩ := own_cell hoA12 (flatM_get _ _ init.length (op, ty, vs) (.slice au vs.length cu) (by simp) (by rw [← HUL.out]; simp)).2.2
                      rw [HJ.out] at qA fA ha13
                      have s12 : w12.cell? ⟨N + 1, 5, none⟩ = some (.slice (some ⟨gA, 0, none⟩) (J + 1) cM) ∧ w12.cell? ⟨gA, J * 3 + 2, none⟩ = some (.slice au vs.length cu) ∧ w12.cell? ⟨g, 12 + k * 3 + 1, none⟩ = some (.string ⟨vl.toArray⟩) := by
                        have h := hr12
                        unfold MF at h
                        exact ⟨(ten_cells h.hc).1.2.2.2.2.2.1, qA, (hPC.out _ _ hr12).2⟩
                      refine hK' _ _ (.inr s12) ?_; clear hK' K'
                      clear hr8 ha8 h8 s8 s0' hbC ho8 hu8 hrd had hg12 ho12 hat12 hoA12 hr12
                      refine anyT_one 18 (by kernel_rfl) rfl (by rfl) (fun K' hK' => ?_); go_simp; refine hK' _ _ (.inr s12) ?_; clear hK' K'
                      refine anyT_one 19 (by kernel_rfl) rfl (by rfl) (fun K' hK' => ?_); go_simp; refine hK' _ _ (.inr s12) ?_; clear hK' K'
                      refine anyT_one 20 (by kernel_rfl) rfl (by rfl) (fun K' hK' => ?_); go_simp; refine hK' _ _ (.inl (by rfl)) ?_; clear hK' K'
                      clear s12 qA fA hlt12
                      generalize w12.setCell ⟨gA, J * 3 + 2, none⟩ (.slice (some ⟨gN, 0, none⟩) (vs.length + 1) cN) = w13 at hr13 ha13 ⊢
                      refine anyT_done (by kernel_rfl) ?_ _
                      go_wp2_with fail
                      go_roundw
                      case rel =>
                        refine ⟨k + 1, true, init ++ [(op, ty, vs ++ [vl])], _, _, rfl, by go_num, by omega, hr13, ha13, ?_, ?_, ?_, fun _ => by simp⟩
                        · exact HADD.out
                        · rw [List.length_append, HJ.out]
                          simp
                          omega
                        · intro x hx
                          have h1 := HVI.out
                          have h2 := HVS.out
                          simp only [List.mem_append, List.mem_singleton] at hx
                          rcases hx with hx | rfl
                          · have := h1 x hx
                            omega
                          · simp
                            omega
                      case measure => simp [RowKit.intOf]; omega
                · obtain rfl : k = t.length := by omega
                  have i5 : decide (((t.length : Nat) : Int) < (t.length : Int)) = false := decide_eq_false (by omega)
                  rw [List.drop_of_length_le (Nat.le_refl _), modF] at hadd
                  have hrf2 : recF (s0 :: s1 :: s2 :: s3 :: t) = ⟨T0, T1, T2, 2, [], acc, [], [], false, false⟩ := by
                    rw [HRF.out, HFI.out, hadd]
                    simp
                  clear HRF hadd hvl hoa
                  have HRF := Lib.hid hrf2
                  unfold MF at hrs
                  have hao := hag.mo
                  clear hrf2 hag
                  obtain ⟨⟨c0, c1, c2, c3, c4, c5, c6, c7, c8, c9⟩, _⟩ := ten_cells hrs.hc
                  obtain ⟨⟨n0, n1, n2, n3, n4, n5, n6, n7, n8, n9⟩, z0, z1, z2, z3, z4, z5, z6, z7, z8, z9⟩ := ten_cells hrs.hr
                  have hfin := hrs.hb.trans (put10_below wr N (.string ⟨T0.toArray⟩) (.string ⟨T1.toArray⟩) (.string ⟨T2.toArray⟩) (.int .i64 2) (.slice none 0 0) (.slice aM acc.length cM) (.string ⟨#[]⟩) (.string ⟨#[]⟩) (.bool false) (.bool false))
                  have hgr := put10_grown wr N (.string ⟨T0.toArray⟩) (.string ⟨T1.toArray⟩) (.string ⟨T2.toArray⟩) (.int .i64 2) (.slice none 0 0) (.slice aM acc.length cM) (.string ⟨#[]⟩) (.string ⟨#[]⟩) (.bool false) (.bool false)
                  have HFA := Lib.hid (show AO N (put10 wr N (.string ⟨T0.toArray⟩) (.string ⟨T1.toArray⟩) (.string ⟨T2.toArray⟩) (.int .i64 2) (.slice none 0 0) (.slice aM acc.length cM) (.string ⟨#[]⟩) (.string ⟨#[]⟩) (.bool false) (.bool false)) (.slice none 0 0) _ from (AO.nil (N + 2) wr).g hgr)
                  have HFM := Lib.hid (show MO N (put10 wr N (.string ⟨T0.toArray⟩) (.string ⟨T1.toArray⟩) (.string ⟨T2.toArray⟩) (.int .i64 2) (.slice none 0 0) (.slice aM acc.length cM) (.string ⟨#[]⟩) (.string ⟨#[]⟩) (.bool false) (.bool false)) (.slice aM acc.length cM) _ from (hao).g hgr)
                  clear hgr hrs
                  go_wp2_with fail
                  refine bodyPost_ret (v := .agg #[.string ⟨T0.toArray⟩, .string ⟨T1.toArray⟩, .string ⟨T2.toArray⟩, .int .i64 2, .slice none 0 0, .slice aM acc.length cM, .string ⟨#[]⟩, .string ⟨#[]⟩, .bool false, .bool false]) (by simp [results, Tryz.results34, go_sem, n0, n1, n2, n3, n4, n5, n6, n7, n8, n9]) rfl ?_
                  rw [← HPR.out]
                  unfold RecP
                  rw [HRF.out, HNN.out]
                  exact ⟨⟨_, _, rfl, HFA.out, HFM.out⟩, hfin⟩
            · go_wp2_with fail
              clear c3
              go_loopw [14] (fun i wq => ∃ k : Nat, i = .int .i64 (k : Int) ∧ k ≤ t.length ∧ RS N w (MV T0 T1 T2 t k) (.slice (some ⟨g, 0, none⟩) (t.length + 4) cp) (t.length + 4) ((s0 :: s1 :: s2 :: s3 :: t).map splitR) wq) (fun i _ => t.length - (RowKit.intOf i).toNat)
              case atStart => exact ⟨0, rfl, by omega, hrs⟩
              case round =>
                clear hrs
                obtain ⟨k, rfl, hk, hrs⟩ := hrel
                by_cases hkl : k < t.length
                · have hne : t ≠ [] := by intro e; rw [e] at hkl; simp at hkl
                  obtain ⟨rfl, rfl⟩ := hoff hne
                  obtain ⟨x, hx⟩ : ∃ x, t[k]? = some x := ⟨t[k], List.getElem?_eq_getElem hkl⟩
                  have hv := v0F_at hx
                  have i5 : decide ((k : Int) < (t.length : Int)) = true := decide_eq_true (by omega)
                  have i6 : (k : Int) < (t.length : Int) := by omega
                  have hpc := (hrs.pc hx).2
                  obtain ⟨V, hV⟩ : ∃ V, (snd2 x).2 = V := ⟨_, rfl⟩
                  rw [hV] at hpc hv
                  have hs' := hrs
                  unfold MV at hs'
                  obtain ⟨⟨_, _, _, _, _, _, d6, d7, d8, d9⟩, _, _, _, _, _, _, e6, e7, e8, e9⟩ := ten_cells hs'.hc
                  have HX := Lib.hid hx
                  have HV := Lib.hid hV
                  clear hs' hV hx hne
                  by_cases hk0 : k = 0
                  · subst hk0
                    have q : wr.cell? ⟨g, 13, none⟩ = some (.string ⟨V.toArray⟩) := hpc
                    have i7 : (0 : Int) < (t.length : Int) := by omega
                    have hrs2 := hrs.set 6 (.string ⟨V.toArray⟩)
                    rw [← hv, MV_one] at hrs2
                    have HR2 := Lib.hid hrs2
                    rw [hv] at HR2
                    clear hrs hrs2 hpc hv
                    go_wp2_with fail
                    go_roundw
                    case rel => exact ⟨1, rfl, by omega, HR2.out⟩
                    case measure => simp [RowKit.intOf]; omega
                  · by_cases hk1 : k = 1
                    · subst hk1
                      have q : wr.cell? ⟨g, 16, none⟩ = some (.string ⟨V.toArray⟩) := hpc
                      have i7 : (1 : Int) < (t.length : Int) := by omega
                      have hrs2 := hrs.set 8 (.bool (decide (V = [49])))
                      rw [← hv, MV_two] at hrs2
                      have HR2 := Lib.hid hrs2
                      rw [hv] at HR2
                      have hb : (V == [49]) = decide (V = [49]) := by rw [Bool.eq_iff_iff]; simp
                      obtain ⟨b, hbb⟩ : ∃ b, decide (V = [49]) = b := ⟨_, rfl⟩
                      rw [hbb] at HR2 hb
                      clear hrs hrs2 hpc hv hk0 hbb
                      go_wp2_with fail
                      go_roundw
                      case rel => exact ⟨2, rfl, by omega, HR2.out⟩
                      case measure => simp [RowKit.intOf]; omega
                    · by_cases hk2 : k = 2
                      · subst hk2
                        have q : wr.cell? ⟨g, 19, none⟩ = some (.string ⟨V.toArray⟩) := hpc
                        have i7 : (2 : Int) < (t.length : Int) := by omega
                        clear hpc hk0 hk1
                        go_wp2_with fail
                        refine region_anyT (S := fun w' => w'.cell? ⟨g, 19, none⟩ = some (.string ⟨V.toArray⟩)) (st := 6) (by kernel_rfl) ?_
                        have s0' : wr.drew.cell? ⟨g, 19, none⟩ = some (.string ⟨V.toArray⟩) := q
                        have d7' : wr.drew.cell? ⟨N + 1, 7, none⟩ = _ := d7
                        have d9' : wr.drew.cell? ⟨N + 1, 9, none⟩ = _ := d9
                        have e7' : wr.drew.frozen? ⟨N + 1, 7, none⟩ = false := e7
                        have e9' : wr.drew.frozen? ⟨N + 1, 9, none⟩ = false := e9
                        have hrd := hrs.drew
                        clear hrs q d6 d7 d8 d9 e6 e7 e8 e9
                        generalize wr.drew = wd at hrd s0' d7' d9' e7' e9' ⊢
                        refine anyT_free 0 (.slice (some ⟨g, 12, none⟩) t.length cp') rfl (by decide) (by kernel_rfl) (by kernel_rfl) (by kernel_rfl) (fun _ _ _ h => h) (by rfl) (fun w' => by go_simp) (.inr s0') (fun K hK => ?_); go_simp; refine hK _ _ ?_; clear hK K
                        refine anyT_free 1 (.int .i64 2) rfl (by decide) (by kernel_rfl) (by kernel_rfl) (by kernel_rfl) (fun _ _ _ h => h) (by rfl) (fun w' => by go_simp) (.inr s0') (fun K hK => ?_); go_simp; refine hK _ _ ?_; clear hK K
                        refine anyT_free 2 (.pointer (some ⟨g, 18, none⟩)) rfl (by decide) (by kernel_rfl) (by kernel_rfl) (by kernel_rfl) (fun _ _ _ h => h) (by rfl) (fun w' => by go_simp) (.inr s0') (fun K hK => ?_); go_simp; refine hK _ _ ?_; clear hK K
                        refine anyT_free 3 (.pointer (some ⟨g, 19, none⟩)) rfl (by decide) (by kernel_rfl) (by kernel_rfl) (by kernel_rfl) (fun _ _ _ h => h) (by rfl) (fun w' => by go_simp) (.inr s0') (fun K hK => ?_); go_simp; refine hK _ _ ?_; clear hK K
                        refine anyT_free 5 (.pointer (some ⟨N + 1, 9, none⟩)) rfl (by decide) (by kernel_rfl) (by kernel_rfl) (by kernel_rfl) (fun _ _ _ h => h) (by rfl) (fun w' => by go_simp) (.inr s0') (fun K hK => ?_); go_simp; refine hK _ _ ?_; clear hK K
                        refine anyT_two 4 6 (by kernel_rfl) rfl (by rfl) rfl (by rfl) (fun K hK => ?_) (fun K hK => ?_)
                        · go_simp; refine hK _ _ (.inr s0') ?_; clear hK K
                          refine anyT_one 6 (by kernel_rfl) rfl (by rfl) (fun K hK => ?_); go_simp; refine hK _ _ (.inl (by rfl)) ?_; clear hK K
                          have hrd2 := hrd.set 9 (.bool true)
                          have d7'' : (wd.setCell ⟨N + 1, 9, none⟩ (.bool true)).cell? ⟨N + 1, 7, none⟩ = _ := (ten_cells hrd2.hc).1.2.2.2.2.2.2.2.1
                          have e7'' : (wd.setCell ⟨N + 1, 9, none⟩ (.bool true)).frozen? ⟨N + 1, 7, none⟩ = false := Lib.frozen_of_heap hrd2.hc 7
                          have q9 : (wd.setCell ⟨N + 1, 9, none⟩ (.bool true)).cell? ⟨g, 19, none⟩ = some (.string ⟨V.toArray⟩) := by
                            have hc := (hrd2.pc HX.out).2
                            rw [HV.out] at hc
                            exact hc
                          clear hrd s0' d7' d9' e7' e9'
                          generalize wd.setCell ⟨N + 1, 9, none⟩ (.bool true) = we at hrd2 d7'' e7'' q9 ⊢
                          refine anyT_one 7 (by kernel_rfl) rfl (by rfl) (fun K hK => ?_); go_simp; refine hK _ _ (.inl (by rfl)) ?_; clear hK K
                          refine anyT_one 8 (by kernel_rfl) rfl (by rfl) (fun K hK => ?_); go_simp; refine hK _ _ (.inl (by rfl)) ?_; clear hK K
                          refine anyT_done (by kernel_rfl) ?_ _
                          have hrs2 := hrd2.set 7 (.string ⟨V.toArray⟩)
                          rw [← hv, MV_three] at hrs2
                          have HR2 := Lib.hid hrs2
                          rw [hv] at HR2
                          clear hrd2 hrs2 hv d7'' e7'' q9
                          go_wp2_with fail
                          go_roundw
                          case rel => exact ⟨3, rfl, by omega, HR2.out⟩
                          case measure => simp [RowKit.intOf]; omega
                        · go_simp; refine hK _ _ (.inl (by rfl)) ?_; clear hK K
                          have hrd2 := hrd.set 9 (.bool true)
                          have d7'' : (wd.setCell ⟨N + 1, 9, none⟩ (.bool true)).cell? ⟨N + 1, 7, none⟩ = _ := (ten_cells hrd2.hc).1.2.2.2.2.2.2.2.1
                          have e7'' : (wd.setCell ⟨N + 1, 9, none⟩ (.bool true)).frozen? ⟨N + 1, 7, none⟩ = false := Lib.frozen_of_heap hrd2.hc 7
                          have q9 : (wd.setCell ⟨N + 1, 9, none⟩ (.bool true)).cell? ⟨g, 19, none⟩ = some (.string ⟨V.toArray⟩) := by
                            have hc := (hrd2.pc HX.out).2
                            rw [HV.out] at hc
                            exact hc
                          clear hrd s0' d7' d9' e7' e9'
                          generalize wd.setCell ⟨N + 1, 9, none⟩ (.bool true) = we at hrd2 d7'' e7'' q9 ⊢
                          refine anyT_one 4 (by kernel_rfl) rfl (by rfl) (fun K hK => ?_); go_simp; refine hK _ _ (.inl (by rfl)) ?_; clear hK K
                          refine anyT_one 7 (by kernel_rfl) rfl (by rfl) (fun K hK => ?_); go_simp; refine hK _ _ (.inl (by rfl)) ?_; clear hK K
                          refine anyT_one 8 (by kernel_rfl) rfl (by rfl) (fun K hK => ?_); go_simp; refine hK _ _ (.inl (by rfl)) ?_; clear hK K
                          refine anyT_done (by kernel_rfl) ?_ _
                          have hrs2 := hrd2.set 7 (.string ⟨V.toArray⟩)
                          rw [← hv, MV_three] at hrs2
                          have HR2 := Lib.hid hrs2
                          rw [hv] at HR2
                          clear hrd2 hrs2 hv d7'' e7'' q9
                          go_wp2_with fail
                          go_roundw
                          case rel => exact ⟨3, rfl, by omega, HR2.out⟩
                          case measure => simp [RowKit.intOf]; omega
                      · have b0 : ((k : Int) == 0) = false := by rw [beq_eq_false_iff_ne]; omega
                        have b1 : ((k : Int) == 1) = false := by rw [beq_eq_false_iff_ne]; omega
                        have b2 : ((k : Int) == 2) = false := by rw [beq_eq_false_iff_ne]; omega
                        rw [MV_more _ _ _ _ k (by omega)] at hrs
                        have HR2 := Lib.hid hrs
                        clear hrs hpc hv d6 d7 d8 d9 e6 e7 e8 e9
                        go_wp2_with fail
                        go_roundw
                        case rel => exact ⟨k + 1, by go_num, by omega, HR2.out⟩
                        case measure => simp [RowKit.intOf]; omega
                · obtain rfl : k = t.length := by omega
                  have i5 : decide (((t.length : Nat) : Int) < (t.length : Int)) = false := decide_eq_false (by omega)
                  obtain ⟨A6, A7, A8, A9, hMV, f6, f7, f8, f9⟩ := MV_end T0 T1 T2 t
                  rw [hMV] at hrs
                  have hrf2 : recF (s0 :: s1 :: s2 :: s3 :: t) = ⟨T0, T1, T2, 3, [], [], A6, A7, A8, A9⟩ := by
                    rw [HRF.out, f6, f7, f8, f9]
                    simp [v0F]
                  clear HRF hMV f6 f7 f8 f9
                  have HRF := Lib.hid hrf2
                  clear hrf2
                  obtain ⟨⟨c0, c1, c2, c3, c4, c5, c6, c7, c8, c9⟩, _⟩ := ten_cells hrs.hc
                  obtain ⟨⟨n0, n1, n2, n3, n4, n5, n6, n7, n8, n9⟩, z0, z1, z2, z3, z4, z5, z6, z7, z8, z9⟩ := ten_cells hrs.hr
                  have hfin := hrs.hb.trans (put10_below wr N (.string ⟨T0.toArray⟩) (.string ⟨T1.toArray⟩) (.string ⟨T2.toArray⟩) (.int .i64 3) (.slice none 0 0) (.slice none 0 0) (.string ⟨A6.toArray⟩) (.string ⟨A7.toArray⟩) (.bool A8) (.bool A9))
                  have hgr := put10_grown wr N (.string ⟨T0.toArray⟩) (.string ⟨T1.toArray⟩) (.string ⟨T2.toArray⟩) (.int .i64 3) (.slice none 0 0) (.slice none 0 0) (.string ⟨A6.toArray⟩) (.string ⟨A7.toArray⟩) (.bool A8) (.bool A9)
                  have HFA := Lib.hid (show AO N (put10 wr N (.string ⟨T0.toArray⟩) (.string ⟨T1.toArray⟩) (.string ⟨T2.toArray⟩) (.int .i64 3) (.slice none 0 0) (.slice none 0 0) (.string ⟨A6.toArray⟩) (.string ⟨A7.toArray⟩) (.bool A8) (.bool A9)) (.slice none 0 0) _ from (AO.nil (N + 2) wr).g hgr)
                  have HFM := Lib.hid (show MO N (put10 wr N (.string ⟨T0.toArray⟩) (.string ⟨T1.toArray⟩) (.string ⟨T2.toArray⟩) (.int .i64 3) (.slice none 0 0) (.slice none 0 0) (.string ⟨A6.toArray⟩) (.string ⟨A7.toArray⟩) (.bool A8) (.bool A9)) (.slice none 0 0) _ from (MO.nil (N + 2) wr).g hgr)
                  clear hgr hrs
                  go_wp2_with fail
                  refine bodyPost_ret (v := .agg #[.string ⟨T0.toArray⟩, .string ⟨T1.toArray⟩, .string ⟨T2.toArray⟩, .int .i64 3, .slice none 0 0, .slice none 0 0, .string ⟨A6.toArray⟩, .string ⟨A7.toArray⟩, .bool A8, .bool A9]) (by simp [results, Tryz.results34, go_sem, n0, n1, n2, n3, n4, n5, n6, n7, n8, n9]) rfl ?_
                  rw [← HPR.out]
                  unfold RecP
                  rw [HRF.out, HNN.out]
                  exact ⟨⟨_, _, rfl, HFA.out, HFM.out⟩, hfin⟩
            · have b0 : (kd == 0) = false := by rw [beq_eq_false_iff_ne]; exact hk0
              have b2 : (kd == 2) = false := by rw [beq_eq_false_iff_ne]; exact hk2
              have b3 : (kd == 3) = false := by rw [beq_eq_false_iff_ne]; exact hk3
              have hrf2 : recF (s0 :: s1 :: s2 :: s3 :: t) = ⟨T0, T1, T2, kd, [], [], [], [], false, false⟩ := by
                rw [HRF.out]
                simp [hk0, hk2, hk3]
              clear HRF
              have HRF := Lib.hid hrf2
              clear hrf2
              obtain ⟨⟨c0, c1, c2, c3, c4, c5, c6, c7, c8, c9⟩, _⟩ := ten_cells hrs.hc
              obtain ⟨⟨n0, n1, n2, n3, n4, n5, n6, n7, n8, n9⟩, z0, z1, z2, z3, z4, z5, z6, z7, z8, z9⟩ := ten_cells hrs.hr
              have hfin := hrs.hb.trans (put10_below wr N (.string ⟨T0.toArray⟩) (.string ⟨T1.toArray⟩) (.string ⟨T2.toArray⟩) (.int .i64 kd) (.slice none 0 0) (.slice none 0 0) (.string ⟨#[]⟩) (.string ⟨#[]⟩) (.bool false) (.bool false))
              have hgr := put10_grown wr N (.string ⟨T0.toArray⟩) (.string ⟨T1.toArray⟩) (.string ⟨T2.toArray⟩) (.int .i64 kd) (.slice none 0 0) (.slice none 0 0) (.string ⟨#[]⟩) (.string ⟨#[]⟩) (.bool false) (.bool false)
              have HFA := Lib.hid (show AO N (put10 wr N (.string ⟨T0.toArray⟩) (.string ⟨T1.toArray⟩) (.string ⟨T2.toArray⟩) (.int .i64 kd) (.slice none 0 0) (.slice none 0 0) (.string ⟨#[]⟩) (.string ⟨#[]⟩) (.bool false) (.bool false)) (.slice none 0 0) _ from (AO.nil (N + 2) wr).g hgr)
              have HFM := Lib.hid (show MO N (put10 wr N (.string ⟨T0.toArray⟩) (.string ⟨T1.toArray⟩) (.string ⟨T2.toArray⟩) (.int .i64 kd) (.slice none 0 0) (.slice none 0 0) (.string ⟨#[]⟩) (.string ⟨#[]⟩) (.bool false) (.bool false)) (.slice none 0 0) _ from (MO.nil (N + 2) wr).g hgr)
              clear hgr hrs
              go_wp2_with fail
              refine bodyPost_ret (v := .agg #[.string ⟨T0.toArray⟩, .string ⟨T1.toArray⟩, .string ⟨T2.toArray⟩, .int .i64 kd, .slice none 0 0, .slice none 0 0, .string ⟨#[]⟩, .string ⟨#[]⟩, .bool false, .bool false]) (by simp [results, Tryz.results34, go_sem, n0, n1, n2, n3, n4, n5, n6, n7, n8, n9]) rfl ?_
              rw [← HPR.out]
              unfold RecP
              rw [HRF.out, HNN.out]
              exact ⟨⟨_, _, rfl, HFA.out, HFM.out⟩, hfin⟩
end Go.Proofs.YtegigcneimjimaaGreatDoor
