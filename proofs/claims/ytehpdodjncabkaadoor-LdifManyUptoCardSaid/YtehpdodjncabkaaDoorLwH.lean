/- chancerylaw18: the law LdifMany. -/
import Derived.Test.YtehpdodjncabkaaDoorLwG
namespace Go.Proofs.YtehpdodjncabkaaDoor
open Go.RowKit Go.Lib

def ManyRel (w : World) (cs : List Chg) (s v i : Value) (wr : World) : Prop :=
  ∃ (k : Nat) (done : List Chg) (us : List (Value × Value)) (ts : List (List UInt8)), i = .int .i64 (k : Int) ∧ k ≤ cs.length ∧ s = .string ⟨ts.flatten.toArray⟩ ∧ done.map printC = ts.map (fun t => (t, 0)) ∧ ts.flatten.length ≤ 65536 ∧ done.length ≤ k ∧ (∀ c ∈ done, c ∈ cs) ∧
    Below w.heap.size w wr ∧ wr.ownsRow w.heap.size 25 10 v done.length (flatC done us) ∧ us.length = done.length ∧ ∀ (j : Nat) (c : Chg) (p : Value × Value), done[j]? = some c → us[j]? = some p → AttrsAt w p.1 c.attrs ∧ ModsAt w p.2 c.mods
theorem chgs_own2 {N : Nat} {w : World} {v : Value} {cs : List Chg} {us : List (Value × Value)} (h : w.ownsRow N 25 10 v cs.length (flatC cs us)) (hl : us.length = cs.length)
    (hs : ∀ (j : Nat) (c : Chg) (p : Value × Value), cs[j]? = some c → us[j]? = some p → AttrsAt w p.1 c.attrs ∧ ModsAt w p.2 c.mods) : ChgsAt w v cs := by
  rcases id h.2 with ⟨rfl, h0⟩ | ⟨g, cap, cur, rfl, hb, hg, hc, _, _, ht⟩
  · have : cs = [] := List.length_eq_zero_iff.1 h0
    subst this
    exact ⟨none, 0, rfl, by simp, fun h => absurd rfl h⟩
  · refine ⟨some ⟨g, 0, none⟩, cap, rfl, hc, fun _ => ⟨g, 0, rfl, fun j c hj => ?_⟩⟩
    obtain ⟨u, hu⟩ : ∃ u, us[j]? = some u := ⟨us[j]'(by rw [hl]; exact (List.getElem?_eq_some_iff.1 hj).1), List.getElem?_eq_getElem _⟩
    obtain ⟨r1, r2⟩ := hs j c u hj hu
    refine ⟨u.1, u.2, fun i x hx => ?_, r1, r2⟩
    have hi10 : i < 10 := (Array.getElem?_eq_some_iff.1 hx).1
    have g1 := flatC_get cs us j c u i hj hu hi10
    rw [hx] at g1
    rw [Nat.zero_add]
    exact (own_cell h g1).1
set_option maxRecDepth 100000 in
set_option maxHeartbeats 8000000 in
theorem LdifMany_any (v : Value) (cs : List Chg) (w : World) (h : ChgsAt w v cs) (hS : ∀ c ∈ cs, Small c) (hE : Env w) :
    Calls Tryd.prog 6 #[v] w fun e w' => e = .returned (.bool true) ∧ Below w.heap.size w w' := by
  have H := Lib.hid h
  have HS := Lib.hid hS
  clear hS
  obtain ⟨a1, cap1, rfl, hc1, hx1⟩ := h
  clear hx1
  obtain ⟨i0, hi0, hz0, hz1, hz2⟩ := info_parts Tryd.infoChg
  by_cases h20 : 20 < cs.length
  · have g1 : decide ((20 : Int) < (cs.length : Int)) = true := decide_eq_true (by omega)
    have ka := alive_any w hE
    go_enter Tryd.func6, Tryd.ntmps6
    go_wp2_with fail
    refine Calls.mono (show Calls _ _ _ _ _ from ka) ?_
    rintro e w6 ⟨rfl, hb6⟩
    go_wp2_with fail
    go_ret
    exact ⟨rfl, hb6⟩
  · have g1 : decide ((20 : Int) < (cs.length : Int)) = false := decide_eq_false (by omega)
    go_enter Tryd.func6, Tryd.ntmps6
    go_wp2_with fail
    go_loopw [3, 4, 5] (fun s v i wr => ManyRel w cs s v i wr) (fun _ _ i _ => cs.length - (RowKit.intOf i).toNat)
    case atStart => exact ⟨0, [], [], [], rfl, by omega, rfl, rfl, by simp, by simp, fun c hc => (by cases hc), Below.refl _ _, World.ownsRow_nil _ _ _ _, rfl, fun j c p h => by simp at h⟩
    case round =>
      obtain ⟨k, done, us, ts, rfl, hk, rfl, hmap, hfl, hdk, hsub, hbr, hown, hul, hrec⟩ := hrel
      have HMAP := Lib.hid hmap
      have HSUB := Lib.hid hsub
      have HREC := Lib.hid hrec
      clear hmap hsub hrec
      by_cases hkl : k < cs.length
      · obtain ⟨x, hx⟩ : ∃ x, cs[k] = x := ⟨_, rfl⟩
        have hxk : cs[k]? = some x := by rw [List.getElem?_eq_getElem hkl, hx]
        have hxs := HS.out x (List.mem_of_getElem? hxk)
        have HXK := Lib.hid hxk
        obtain ⟨g, o, cp, vA, vM, e3, _, ⟨p0, p1, p2, p3, p4, p5, p6, p7, p8, p9⟩, hAx, hMx⟩ := H.out.at hxk
        cases e3
        have HAX := Lib.hid hAx
        have HMX := Lib.hid hMx
        have i1 : (k : Int) < (cs.length : Int) := by omega
        have i3 : decide ((k : Int) < (cs.length : Int)) = true := decide_eq_true i1
        have q0 := (hbr.cell (lt_of_cell p0)).trans p0
        have q1 := (hbr.cell (lt_of_cell p1)).trans p1
        have q2 := (hbr.cell (lt_of_cell p2)).trans p2
        have q3 := (hbr.cell (lt_of_cell p3)).trans p3
        have q4 := (hbr.cell (lt_of_cell p4)).trans p4
        have q5 := (hbr.cell (lt_of_cell p5)).trans p5
        have q6 := (hbr.cell (lt_of_cell p6)).trans p6
        have q7 := (hbr.cell (lt_of_cell p7)).trans p7
        have q8 := (hbr.cell (lt_of_cell p8)).trans p8
        have q9 := (hbr.cell (lt_of_cell p9)).trans p9
        have k1 := light_any x vA vM wr (hAx.below hbr) (hMx.below hbr)
        unfold chgA at k1
        clear hxk hx hAx hMx
        obtain ⟨S, hSS⟩ : ∃ S, ts.flatten = S := ⟨_, rfl⟩
        rw [hSS] at hfl ⊢
        have HSS := Lib.hid hSS
        clear hSS
        go_wp2_with fail
        refine Calls.mono (show Calls _ _ _ _ _ from k1) ?_
        rintro e w3 ⟨rfl, hb3⟩
        have hbr3 := below_ext hbr hb3
        have hown3 := own_below hown hb3
        have hs3 := hb3.size
        have hsr := hbr.size
        clear q0 q1 q2 q3 q4 q5 q6 q7 q8 q9 k1
        have q0 := (hbr3.cell (lt_of_cell p0)).trans p0
        have q1 := (hbr3.cell (lt_of_cell p1)).trans p1
        have q2 := (hbr3.cell (lt_of_cell p2)).trans p2
        have q3 := (hbr3.cell (lt_of_cell p3)).trans p3
        have q4 := (hbr3.cell (lt_of_cell p4)).trans p4
        have q5 := (hbr3.cell (lt_of_cell p5)).trans p5
        have q6 := (hbr3.cell (lt_of_cell p6)).trans p6
        have q7 := (hbr3.cell (lt_of_cell p7)).trans p7
        have q8 := (hbr3.cell (lt_of_cell p8)).trans p8
        have q9 := (hbr3.cell (lt_of_cell p9)).trans p9
        cases hlx : lightC x with
        | false =>
          have ka := alive_any w3 (hE.below hbr3)
          go_wp2_with fail
          refine Calls.mono (show Calls _ _ _ _ _ from ka) ?_
          rintro e w4 ⟨rfl, hb4⟩
          go_wp2_with fail
          go_ret
          exact ⟨rfl, below_ext hbr3 hb4⟩
        | true =>
          have k3 := Print_any x vA vM w3 (HAX.out.below hbr3) (HMX.out.below hbr3) (hE.below hbr3) hxs
          unfold chgA at k3
          obtain ⟨t, n, htn⟩ : ∃ t n, printC x = (t, n) := ⟨_, _, rfl⟩
          have hlen : n = 0 → t.length ≤ 65536 := fun h => (printC_text (c := x) (s := t) (by rw [htn, h])).2.2
          have hem : n ≠ 0 → t = [] := fun h => by have := @printC_empty x; rw [htn] at this; exact this h
          rw [htn] at k3
          simp only at k3
          have HLN := Lib.hid hlen
          have HEM := Lib.hid hem
          have HTN := Lib.hid htn
          clear hlen htn hem
          go_wp2_with fail
          refine Calls.mono (show Calls _ _ _ _ _ from k3) ?_
          rintro e w4 ⟨rfl, hb4⟩
          have hbr4 := below_ext hbr3 hb4
          have hown4 := own_below hown3 hb4
          have hs4 := hb4.size
          clear q0 q1 q2 q3 q4 q5 q6 q7 q8 q9 k3
          have q0 := (hbr4.cell (lt_of_cell p0)).trans p0
          have q1 := (hbr4.cell (lt_of_cell p1)).trans p1
          have q2 := (hbr4.cell (lt_of_cell p2)).trans p2
          have q3 := (hbr4.cell (lt_of_cell p3)).trans p3
          have q4 := (hbr4.cell (lt_of_cell p4)).trans p4
          have q5 := (hbr4.cell (lt_of_cell p5)).trans p5
          have q6 := (hbr4.cell (lt_of_cell p6)).trans p6
          have q7 := (hbr4.cell (lt_of_cell p7)).trans p7
          have q8 := (hbr4.cell (lt_of_cell p8)).trans p8
          have q9 := (hbr4.cell (lt_of_cell p9)).trans p9
          by_cases hn : n = 0
          · subst hn
            have htl := HLN.out rfl
            by_cases hbig : 65536 < S.length + t.length
            · have g2 : decide ((65536 : Int) < (S.length : Int) + (t.length : Int)) = true := decide_eq_true (by omega)
              go_wp2_with fail
              exact ⟨⟨k + 1, done, us, ts, by go_num, by omega, by rw [HSS.out], HMAP.out, by rw [HSS.out]; omega, by omega, HSUB.out, hbr4, hown4, hul, HREC.out⟩, by simp [RowKit.intOf]; omega⟩
            · have g2 : decide ((65536 : Int) < (S.length : Int) + (t.length : Int)) = false := decide_eq_false (by omega)
              obtain ⟨aX, cX, hvA, _⟩ := id HAX.out
              obtain ⟨aY, cY, hvM, _⟩ := id HMX.out
              subst hvA hvM
              have hlt4 := hown4.lt
              have hbe2 : Below w.heap.size w (w4.alloc (.cells (chgA x (.slice aX x.attrs.length cX) (.slice aY x.mods.length cY)) 25)) := hbr4.alloc (by omega) _
              have HBE2 := Lib.hid hbe2
              clear hbe2
              have happ : (⟨S.toArray⟩ ++ ⟨t.toArray⟩ : ByteArray) = ⟨(S ++ t).toArray⟩ := app_mk _ _
              unfold chgA at HBE2
              go_wp2_with (at_builtin; refine wpList_append_lies _ rfl (.tmp 48) (.tmp 53) 43 rfl w.heap.size 25 i0 (.agg #[.string ⟨#[]⟩, .string ⟨#[]⟩, .string ⟨#[]⟩, .int .i64 0, .slice none 0 0, .slice none 0 0, .string ⟨#[]⟩, .string ⟨#[]⟩, .bool false, .bool false]) 10 144 Tryd.underlying43 hi0 hz0 hz1 hz2 rfl (by omega) u4 done.length (flatC done us) rfl (hown4.alloc _) ⟨w4.heap.size, 0, none⟩ 1 1 [.string ⟨x.time.toArray⟩, .string ⟨x.who.toArray⟩, .string ⟨x.dn.toArray⟩, .int .i64 x.kind, .slice aX x.attrs.length cX, .slice aY x.mods.length cY, .string ⟨x.newRdn.toArray⟩, .string ⟨x.newSup.toArray⟩, .bool x.delOld, .bool x.hasSup] rfl rfl (World.news_of_block (alloc_at _ _ _ rfl)) ?d2 (by omega) ?d3 ?d4 ?d5 (w4.heap.size + 1) (by simp) ?_)
              case d2 => intro x hx; simp at hx; rcases hx with rfl | rfl | rfl | rfl | rfl | rfl | rfl | rfl | rfl | rfl <;> rfl
              case d3 => unfold maxLen; omega
              case d4 => omega
              case d5 => simp; omega
              intro g5 cap5 w8 ho8 hg8 hat8 hlt8
              have hb8 : Below w.heap.size w w8 := HBE2.out.grown hg8 (by simp; omega) (fun k hk => (hlt4 k hk).1)
              have ho8' : w8.ownsRow w.heap.size 25 10 (.slice (some ⟨g5, 0, none⟩) (done.length + 1) cap5) (done ++ [x]).length (flatC (done ++ [x]) (us ++ [(.slice aX x.attrs.length cX, .slice aY x.mods.length cY)])) := by
                rw [flatC_snoc _ _ _ _ hul, List.length_append]
                exact ho8
              have HO8 := Lib.hid ho8'
              have hfl2 : (ts ++ [t]).flatten = S ++ t := by rw [List.flatten_append, HSS.out]; simp
              have HFL2 := Lib.hid hfl2
              clear ho8 ho8' hg8 hfl2
              go_wp2_with fail
              refine ⟨⟨k + 1, done ++ [x], us ++ [(.slice aX x.attrs.length cX, .slice aY x.mods.length cY)], ts ++ [t], by go_num, by omega, by rw [HFL2.out], ?_, by rw [HFL2.out, List.length_append]; omega, by rw [List.length_append, List.length_singleton]; omega, ?_, hb8, HO8.out, by simp [hul], ?_⟩, by simp [RowKit.intOf]; omega⟩
              · rw [List.map_append, List.map_append, HMAP.out]
                simp [HTN.out]
              · intro c hc
                rcases List.mem_append.1 hc with hc | hc
                · exact HSUB.out c hc
                · simp only [List.mem_singleton] at hc
                  subst hc
                  exact List.mem_of_getElem? HXK.out
              · intro j c p h1 h2
                rcases Nat.lt_or_ge j done.length with hj | hj
                · rw [List.getElem?_append_left hj] at h1
                  rw [List.getElem?_append_left (by omega)] at h2
                  exact HREC.out j c p h1 h2
                · obtain rfl : j = done.length := by
                    have := (List.getElem?_eq_some_iff.1 h1).1
                    simp at this
                    omega
                  rw [List.getElem?_append_right (Nat.le_refl _), Nat.sub_self] at h1
                  rw [List.getElem?_append_right (by omega), show done.length - us.length = 0 by omega] at h2
                  simp only [List.getElem?_cons_zero, Option.some.injEq] at h1 h2
                  subst h1 h2
                  exact ⟨HAX.out, HMX.out⟩
          · have hnb : (n == 0) = false := by simpa using hn
            have hnn : (n != 0) = true := by simpa using hn
            obtain rfl : t = [] := HEM.out hn
            go_wp2_with fail
            exact ⟨⟨k + 1, done, us, ts, by go_num, by omega, by rw [HSS.out], HMAP.out, by rw [HSS.out]; omega, by omega, HSUB.out, hbr4, hown4, hul, HREC.out⟩, by simp [RowKit.intOf]; omega⟩
      · obtain rfl : k = cs.length := by omega
        obtain ⟨S, hSS⟩ : ∃ S, ts.flatten = S := ⟨_, rfl⟩
        rw [hSS] at hfl ⊢
        have hac := allC_cat done ts HMAP.out (by rw [hSS]; exact hfl)
        rw [hSS] at hac
        have k5 := All_short S wr hfl (hE.below hbr)
        unfold AllPost at k5
        rw [hac] at k5
        simp only at k5
        clear hac hSS
        go_wp2_with fail
        refine Calls.mono (show Calls _ _ _ _ _ from k5) ?_
        rintro e w4 ⟨hb4, vx, rfl, hcx⟩
        have hbr4 := below_ext hbr hb4
        have ka := alive_any w4 (hE.below hbr4)
        go_wp2_with fail
        refine Calls.mono (show Calls _ _ _ _ _ from ka) ?_
        rintro e w5 ⟨rfl, hb5⟩
        have hbr5 := below_ext hbr4 hb5
        have hck : ChgsAt w5 u4 done := chgs_own2 (own_below (own_below hown hb4) hb5) hul (fun j c p h1 h2 => ⟨(HREC.out j c p h1 h2).1.below hbr5, (HREC.out j c p h1 h2).2.below hbr5⟩)
        have k6 := SameChanges_any vx u4 done done w5 (hcx.below hb5) hck (by omega) (by omega) (fun c hc => (HS.out c (HSUB.out c hc)).len) (fun c hc => (HS.out c (HSUB.out c hc)).len)
        rw [sameL_self] at k6
        go_wp2_with fail
        refine Calls.mono (show Calls _ _ _ _ _ from k6) ?_
        rintro e w6 ⟨rfl, hb6⟩
        go_wp2_with fail
        go_ret
        exact ⟨rfl, below_ext hbr5 hb6⟩
end Go.Proofs.YtehpdodjncabkaaDoor
