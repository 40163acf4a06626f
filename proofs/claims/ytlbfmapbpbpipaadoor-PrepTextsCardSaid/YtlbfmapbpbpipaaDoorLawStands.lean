/- The law PrepStands: walked. -/
import Derived.Test.YtlbfmapbpbpipaaDoorRefThree
import Derived.Test.YtlbfmapbpbpipaaDoorPlainStands
import Derived.ArgAppend
import Derived.IntWalk
namespace Go.Proofs.YtlbfmapbpbpipaaDoor
open Go.RowKit Go.Lib

def sV (ls : List (List UInt8)) : List Value := ls.map fun l => Value.string ⟨l.toArray⟩
theorem sV_length (ls : List (List UInt8)) : (sV ls).length = ls.length := by simp [sV]
theorem strs_own {w : World} {base : Nat} {v : Value} {ls : List (List UInt8)} (h : w.ownsRow base 9 1 v ls.length (sV ls)) : Strs w v ls := by
  rcases h.2 with ⟨rfl, hn⟩ | ⟨g, cap, cur, rfl, hb, hg, hnc, hcm, hcs, htake⟩
  · exact ⟨none, 0, by rw [hn], by omega, fun h0 => by omega⟩
  · refine ⟨_, cap, rfl, hnc, fun _ => ⟨g, 0, rfl, fun k l hk => ?_⟩⟩
    have := h.cells (g := g) rfl k (.string ⟨l.toArray⟩) (by simp [sV, hk])
    rw [Addr.add_lit] at this
    simpa using this
theorem Strs.below {w w' : World} {v : Value} {ls : List (List UInt8)} (h : Strs w v ls) (hb : Below w.heap.size w w') : Strs w' v ls := by
  obtain ⟨A, c, rfl, hc, hA⟩ := h
  refine ⟨A, c, rfl, hc, fun h0 => ?_⟩
  obtain ⟨g, o, rfl, hcell⟩ := hA h0
  exact ⟨g, o, rfl, fun k l hk => (hb.cell (lt_of_cell (hcell k l hk))).trans (hcell k l hk)⟩
theorem IntsAt.below {k : IntKind} {w w' : World} {v : Value} {xs : List Int} (h : IntsAt k w v xs) (hb : Below w.heap.size w w') : IntsAt k w' v xs := by
  obtain ⟨A, c, rfl, hc, hA⟩ := h
  refine ⟨A, c, rfl, hc, fun h0 => ?_⟩
  obtain ⟨g, o, rfl, hcell⟩ := hA h0
  exact ⟨g, o, rfl, fun i x hx => (hb.cell (lt_of_cell (hcell i x hx))).trans (hcell i x hx)⟩

theorem Tryd.infoStr : (Tryd.prog.info? 9).map (fun i => (i.zero, i.size, i.bytes)) = some (some (.string ⟨#[]⟩), 1, 16) := by kernel_rfl

theorem strs_new2 (w : World) (a b : List UInt8) (t : TypeId) : Strs (w.alloc (.cells #[.string ⟨a.toArray⟩, .string ⟨b.toArray⟩] t)) (.slice (some ⟨w.heap.size, 0, none⟩) 2 2) [a, b] := by
  refine ⟨_, _, rfl, Nat.le_refl _, fun _ => ⟨w.heap.size, 0, rfl, fun k l hk => ?_⟩⟩
  match k, hk with
  | 0, hk => simp at hk; subst hk; simp
  | 1, hk => simp at hk; subst hk; simp
  | k + 2, hk => simp at hk

theorem strs_at2 (w : World) (a b : List UInt8) (t : TypeId) (g : Nat) (hg : w.heap.size = g) : Strs (w.alloc (.cells #[.string ⟨a.toArray⟩, .string ⟨b.toArray⟩] t)) (.slice (some ⟨g, 0, none⟩) 2 2) [a, b] := by
  subst hg
  exact strs_new2 w a b t
theorem app_x (s : List UInt8) : (⟨s.toArray⟩ : ByteArray) ++ (⟨#[120]⟩ : ByteArray) = ⟨(s ++ [120]).toArray⟩ := by
  apply ByteArray.ext
  simp

/-- append, guarded or not, by its run. -/
theorem wpList_append_run {P : Program} {w : World} {ops : Array Oper} {rest : List Oper} {o : Oper} {a : Act} {Q : Exit → Act → World → Prop} (hw : Region.wanted o (yielded ops a.tmps) = true) (sl x : Operand) (t u : TypeId)
    (ho : o.op = .call { callee := .builtin .append, args := #[sl, x], argTypes := #[t, u] }) (v xv : Value) (hs : a.eval sl = v) (hx : a.eval x = xv) (v' : Value) (w' : World)
    (hrun : (Builtin.append_ #[t, u] o.type #[v, xv]).run P w = .ok v' w') (h : wpList P ops Q rest (a.put o.dst v') w') : wpList P ops Q (o :: rest) a w := by
  refine wpList_step fun K hK => ?_
  rw [if_pos hw]
  unfold Oper.wp execOp
  simp only [ho, resolve, invoke, builtin, Sem.run_bind, Sem.run_pure, Result.andThen_ok, List.map_toArray, List.map_cons, List.map_nil, hs, hx, hrun]
  exact hK _ _ h

/-- What holds at every round's head. -/
def SRel (s : List UInt8) (n : Nat) (w : World) (a v i : Value) (wr : World) : Prop :=
  ∃ (j p : Nat) (mids : List (List UInt8)), i = .int .i64 j ∧ a = .int .i64 p ∧ j ≤ n + 1 ∧ p ≤ s.length ∧ wr.ownsRow w.heap.size 9 1 v (mids.length + 1) (sV ([] :: mids)) ∧ Below w.heap.size w wr ∧ Emb (s.take p) mids ∧ mids.length ≤ j

set_option maxRecDepth 100000 in
set_option maxHeartbeats 4000000 in
theorem PrepStands_any (s : List UInt8) (xs : List Int) (v : Value) (w : World) (hs : s.length ≤ 140737488351232) (hv : IntsAt .i64 w v xs) (hxl : xs.length ≤ 9223372036854775807) (hE : Env w) :
    Calls Tryd.prog 8 #[.string ⟨s.toArray⟩, v] w fun e w' => e = .returned (.bool true) ∧ Below w.heap.size w w' := by
  have HE := Lib.hid hE
  clear hE
  have HV := Lib.hid hv
  obtain ⟨A, cap, rfl, hcap, hA⟩ := hv
  clear hA
  by_cases h1 : 2000 < s.length
  · have h1z : (2000 : Int) < (s.length : Int) := by omega
    go_enter Tryd.func8, Tryd.ntmps8
    go_wp2_with fail
    refine (alive_any w HE.out).mono ?_
    rintro e w1 ⟨rfl, hb1⟩
    go_wp2_with fail
    go_ret
    exact ⟨rfl, hb1⟩
  · have h1z : (s.length : Int) ≤ 2000 := by omega
    by_cases h2 : 20 < xs.length
    · have h2z : (20 : Int) < (xs.length : Int) := by omega
      go_enter Tryd.func8, Tryd.ntmps8
      go_wp2_with fail
      refine (alive_any w HE.out).mono ?_
      rintro e w1 ⟨rfl, hb1⟩
      go_wp2_with fail
      go_ret
      exact ⟨rfl, hb1⟩
    · have h2z : (xs.length : Int) ≤ 20 := by omega
      have d1 : decide ((2000 : Int) < (s.length : Int)) = false := by simp; omega
      have d2 : decide ((20 : Int) < (xs.length : Int)) = false := by simp; omega
      go_enter Tryd.func8, Tryd.ntmps8
      go_wp2_with fail
      clear d1 d2
      go_loopw [5, 6, 7] (fun a v i wr => SRel s xs.length w a v i wr) (fun _ _ i _ => xs.length + 1 - (RowKit.intOf i).toNat)
      case atStart =>
        refine ⟨0, 0, [], rfl, rfl, by omega, by omega, ?_, (Below.refl _ _).alloc (Nat.le_refl _) _, trivial, by simp⟩
        refine ⟨rfl, .inr ⟨w.heap.size, 1, #[.string ⟨#[]⟩], rfl, Nat.le_refl _, heap_alloc_new w _, Nat.le_refl _, by unfold maxLen; omega, rfl, rfl⟩⟩
      case round =>
        obtain ⟨j, p, mids, rfl, rfl, hj, hp, hown, hbe, hemb, hml⟩ := hrel
        have HEM := Lib.hid hemb
        clear hemb
        by_cases hlt : j + 1 < xs.length
        · obtain ⟨A', c', hveq, _, hA⟩ := HV.out.below hbe
          obtain ⟨g, o, rfl, hc⟩ := hA (by omega)
          obtain ⟨rfl, rfl⟩ : A = some ⟨g, o, none⟩ ∧ cap = c' := by
            injection hveq with e1 e2 e3
            exact ⟨e1, e3⟩
          have c0 := hc j (xs[j]'(by omega)) (List.getElem?_eq_getElem (by omega))
          have c1 := hc (j + 1) (xs[j + 1]'hlt) (List.getElem?_eq_getElem hlt)
          clear hc hA hveq
          obtain ⟨f, hf⟩ : ∃ f, xs[j]'(by omega) = f := ⟨_, rfl⟩
          obtain ⟨t, ht⟩ : ∃ t, xs[j + 1]'hlt = t := ⟨_, rfl⟩
          rw [hf] at c0
          rw [ht] at c1
          clear hf ht
          have y0 : (0 : Int) ≤ (j : Int) := by omega
          have y1 : (j : Int) < (xs.length : Int) := by omega
          have y2 : (j : Int) + 1 < (xs.length : Int) := by omega
          have y3 : (0 : Int) ≤ (j : Int) + 1 := by omega
          have y4 : ((j : Int) + 1).toNat = j + 1 := by omega
          have y5 : IntKind.i64.wrap ((j : Int) + 1) = (j : Int) + 1 := IntWalk.i64_in _ (by omega)
          go_wp2_with fail
          go_quiet (fail)
          clear c0 c1 y0 y1 y2 y3 y4 y5
          have hbe2 : Below w.heap.size w (wr.drewN nq) := ⟨hbe.os, hbe.tape, hbe.output, hbe.size, hbe.block⟩
          have hown2 : (wr.drewN nq).ownsRow w.heap.size 9 1 u6 (mids.length + 1) (sV ([] :: mids)) := hown
          obtain ⟨w2, hw2⟩ : ∃ w2, wr.drewN nq = w2 := ⟨_, rfl⟩
          rw [hw2] at hbe2 hown2 ⊢
          clear hw2 hown hbe
          by_cases hbad : f < p ∨ t < f ∨ (s.length : Int) < t
          · have e1 : decide (f < (p : Int)) = true ∨ (decide (f < (p : Int)) = false ∧ decide (t < f) = true) ∨ (decide (f < (p : Int)) = false ∧ decide (t < f) = false ∧ decide ((s.length : Int) < t) = true) := by
              simp only [decide_eq_true_eq, decide_eq_false_iff_not]
              omega
            rcases e1 with e1 | ⟨e1, e2⟩ | ⟨e1, e2, e3⟩
            all_goals
              go_wp2_with fail
              go_roundw
              case rel => exact ⟨j + 2, p, mids, by go_num, rfl, by omega, hp, hown2, hbe2, HEM.out, by omega⟩
              case measure => simp [RowKit.intOf]; omega
          · have e1 : decide (f < (p : Int)) = false := by simp; omega
            have e2 : decide (t < f) = false := by simp; omega
            have e3 : decide ((s.length : Int) < t) = false := by simp; omega
            obtain ⟨fn, rfl⟩ : ∃ fn : Nat, f = fn := ⟨f.toNat, by omega⟩
            obtain ⟨tn, rfl⟩ : ∃ tn : Nat, t = tn := ⟨t.toNat, by omega⟩
            have k1 : p ≤ fn := by omega
            have k2 : fn ≤ tn := by omega
            have k3 : tn ≤ s.length := by omega
            clear hbad
            obtain ⟨i0, hi, hz0, hz1, hz2⟩ := info_parts Tryd.infoStr
            have hsz2 : w.heap.size ≤ w2.heap.size := hbe2.size
            have C2 : ∀ u ∈ [Value.string ((⟨s.toArray⟩ : ByteArray).extract fn tn)], u.oneCell' = true := by intro u hu; simp at hu; subst hu; rfl
            have C3 : mids.length + 1 + 1 ≤ maxLen := by unfold maxLen; omega
            have C4 : (mids.length + 1 + 1) * 16 ≤ 140737488355328 := by omega
            have C5 : w.heap.size ≤ (w2.alloc (.cells #[.string ((⟨s.toArray⟩ : ByteArray).extract fn tn)] 9)).heap.size := by simp; omega
            go_wp2_with (at_builtin; refine wpList_append_own _ rfl (.tmp 50) (.tmp 55) 37 rfl w.heap.size 9 i0 (.string ⟨#[]⟩) 1 16 Tryd.underlying37 hi hz0 hz1 hz2 rfl (by decide) u6 (mids.length + 1) (sV ([] :: mids)) rfl (hown2.alloc _) ⟨w2.heap.size, 0, none⟩ 1 1 [.string ((⟨s.toArray⟩ : ByteArray).extract fn tn)] rfl rfl (cell_one_new _ _ _) C2 C3 C4 C5 ?_; intro v' w3 ho3 hg3 _)
            clear C2 C3 C4 C5
            go_roundw
            case rel =>
              have hpc : (⟨s.toArray⟩ : ByteArray).extract fn tn = ⟨((s.drop fn).take (tn - fn)).toArray⟩ := Lib.extract_mk s fn tn
              rw [hpc] at ho3
              have hbl : Below w.heap.size w w3 := (hbe2.alloc hsz2 _).grown hg3 (by simp; omega) (fun k hk => (hown2.lt k hk).1)
              refine ⟨j + 2, tn, mids ++ [(s.drop fn).take (tn - fn)], by go_num, rfl, by omega, k3, ?_, hbl, ?_, by simp; omega⟩
              · have e : sV ([] :: (mids ++ [(s.drop fn).take (tn - fn)])) = sV ([] :: mids) ++ [.string ⟨((s.drop fn).take (tn - fn)).toArray⟩] := by simp [sV]
                rw [e, List.length_append]
                exact ho3
              · have hem := HEM.out.snoc ((s.drop p).take (fn - p)) ((s.drop fn).take (tn - fn))
                have e : s.take tn = s.take p ++ (s.drop p).take (fn - p) ++ (s.drop fn).take (tn - fn) := by
                  have a1 : s.take fn = s.take p ++ (s.drop p).take (fn - p) := by
                    rw [← List.take_add, show p + (fn - p) = fn by omega]
                  rw [← a1, ← List.take_add, show fn + (tn - fn) = tn by omega]
                rw [e]
                exact hem
            case measure => simp [RowKit.intOf]; omega
        · obtain ⟨q1, q2⟩ := holds_stand s p mids HEM.out hp
          obtain ⟨i0, hi, hz0, hz1, hz2⟩ := info_parts Tryd.infoStr
          have hsz2 : w.heap.size ≤ wr.heap.size := hbe.size
          have hmn : mids.length ≤ 30 := by omega
          have C2 : ∀ u ∈ [Value.string ((⟨s.toArray⟩ : ByteArray).extract p s.length)], u.oneCell' = true := by intro u hu; simp at hu; subst hu; rfl
          have C3 : mids.length + 1 + 1 ≤ maxLen := by unfold maxLen; omega
          have C4 : (mids.length + 1 + 1) * 16 ≤ 140737488355328 := by omega
          have C5 : w.heap.size ≤ (wr.alloc (.cells #[.string ((⟨s.toArray⟩ : ByteArray).extract p s.length)] 9)).heap.size := by simp; omega
          have Q1 := Lib.hid q1
          have Q2 := Lib.hid q2
          clear q1 q2 HEM HV
          go_wp2_with (at_builtin; refine wpList_append_own _ rfl (.tmp 58) (.tmp 62) 37 rfl w.heap.size 9 i0 (.string ⟨#[]⟩) 1 16 Tryd.underlying37 hi hz0 hz1 hz2 rfl (by decide) u6 (mids.length + 1) (sV ([] :: mids)) rfl (hown.alloc _) ⟨wr.heap.size, 0, none⟩ 1 1 [.string ((⟨s.toArray⟩ : ByteArray).extract p s.length)] rfl rfl (cell_one_new _ _ _) C2 C3 C4 C5 ?_; intro v' w3 ho3 hg3 _)
          clear C2 C3 C4 C5
          have hpc : (⟨s.toArray⟩ : ByteArray).extract p s.length = ⟨(s.drop p).toArray⟩ := by
            rw [Lib.extract_mk, List.take_of_length_le (by rw [List.length_drop]; omega)]
          rw [hpc] at ho3
          have hbl : Below w.heap.size w w3 := (hbe.alloc hsz2 _).grown hg3 (by simp; omega) (fun k hk => (hown.lt k hk).1)
          have ho4 : w3.ownsRow w.heap.size 9 1 v' ([] :: mids ++ [s.drop p]).length (sV ([] :: mids ++ [s.drop p])) := by
            have e : sV ([] :: mids ++ [s.drop p]) = sV ([] :: mids) ++ [.string ⟨(s.drop p).toArray⟩] := by simp [sV]
            rw [e, List.length_append]
            exact ho3
          have k1 := Holds_l s ([] :: mids ++ [s.drop p]) v' w3 (by omega) (strs_own ho4) (by simp; omega) (HE.out.below hbl)
          rw [Q1.out] at k1
          clear ho3 hg3 hpc
          refine k1.mono ?_
          rintro e w' ⟨rfl, rfl⟩
          obtain ⟨g, c, cur, hv', hgb, hgr, hnc, hcm, hcs, htk⟩ : ∃ g c cur, v' = .slice (some ⟨g, 0, none⟩) ([] :: mids ++ [s.drop p]).length c ∧ w.heap.size ≤ g ∧ w3.heap[g]? = some (.cells cur 9 (0, 0)) ∧ ([] :: mids ++ [s.drop p]).length ≤ c ∧ c ≤ maxLen ∧ cur.size = c * 1 ∧ cur.toList.take (([] :: mids ++ [s.drop p]).length * 1) = sV ([] :: mids ++ [s.drop p]) := by
            rcases ho4.2 with ⟨_, hn⟩ | h
            · simp at hn
            · exact h
          have hcells := ho4.cells (g := g) (by rw [hv']; rfl)
          have hlen : ([] :: mids ++ [s.drop p]).length = mids.length + 2 := by simp
          rw [hlen] at hv' hnc
          subst hv'
          clear ho4 k1 hgr hcs htk
          have hold : ∀ k u, (sV ([] :: mids))[k]? = some u → (w3.alloc (.cells #[.string ⟨#[]⟩] 9)).cell? ((⟨g, 0, none⟩ : Addr).add k) = some u := by
            intro k u hu
            have hk : k < (sV ([] :: mids)).length := by
              rcases Nat.lt_or_ge k (sV ([] :: mids)).length with h | h
              · exact h
              · rw [List.getElem?_eq_none h] at hu; cases hu
            have hx := hcells k u (by
              have e : sV ([] :: mids ++ [s.drop p]) = sV ([] :: mids) ++ [.string ⟨(s.drop p).toArray⟩] := by simp [sV]
              rw [e, List.getElem?_append_left hk]
              exact hu)
            have hl := lt_of_cell hx
            rw [World.cell?_alloc_lt _ _ _ hl]
            exact hx
          obtain ⟨v2, w4, hrun, ho5, hg5⟩ := run_append_arg_grows (P := Tryd.prog) (w3.alloc (.cells #[.string ⟨#[]⟩] 9)) 37 37 9 i0 (.string ⟨#[]⟩) 1 16 Tryd.underlying37 hi hz0 hz1 hz2 rfl (by decide) ⟨g, 0, none⟩ (mids.length + 1) (mids.length + 1) (sV ([] :: mids)) (by simp [sV]) hold ⟨w3.heap.size, 0, none⟩ 1 1 [.string ⟨#[]⟩] rfl (cell_one_new _ _ _) (by omega) (by unfold maxLen; omega) (by omega)
          clear hold hcells
          have HRUN := Lib.hid hrun
          clear hrun
          go_wp2_with (at_builtin; refine wpList_append_run rfl (.tmp 77) (.tmp 78) 37 37 rfl _ _ rfl rfl v2 w4 HRUN.out ?_)
          have hsz3 : w.heap.size ≤ w3.heap.size := hbl.size
          have hb4 : Below w.heap.size w w4 := (hbl.alloc hsz3 _).grown hg5 (by simp; omega) (fun k hk => by cases hk)
          have ho6 : w4.ownsRow (w3.alloc (.cells #[.string ⟨#[]⟩] 9)).heap.size 9 1 v2 ([] :: mids ++ [[]]).length (sV ([] :: mids ++ [[]])) := by
            have e : sV ([] :: mids ++ [[]]) = sV ([] :: mids) ++ [.string ⟨#[]⟩] := by simp [sV]
            rw [e, List.length_append]
            exact ho5
          have k2 := Holds_l s ([] :: mids ++ [[]]) v2 w4 (by omega) (strs_own ho6) (by simp; omega) (HE.out.below hb4)
          rw [Q2.out] at k2
          clear ho5 ho6 hg5 HRUN
          refine k2.mono ?_
          rintro e w' ⟨rfl, rfl⟩
          clear k2
          go_wp2_with fail
          refine (alive_any w4 (HE.out.below hb4)).mono ?_
          rintro e w5 ⟨rfl, hb5⟩
          have hb6 := below_ext hb4 hb5
          go_wp2_with fail
          have hb7 := hb6.alloc hb6.size (.cells #[.string ⟨s.toArray⟩, .string ⟨s.toArray⟩] 9)
          have k3 := Holds_l s [s, s] _ _ (by omega) (strs_new2 w5 s s 9) (by simp) (HE.out.below hb7)
          rw [holds_self] at k3
          refine k3.mono ?_
          rintro e w' ⟨rfl, rfl⟩
          clear k3
          go_wp2_with fail
          rw [app_x]
          have hb8 := hb7.alloc hb7.size (.cells #[.string ⟨(s ++ [120]).toArray⟩, .string ⟨#[]⟩] 9)
          have k4 := Holds_l s [s ++ [120], []] (.slice (some ⟨w5.heap.size + 1, 0, none⟩) 2 2) _ (by omega) (strs_at2 (w5.alloc (.cells #[.string ⟨s.toArray⟩, .string ⟨s.toArray⟩] 9)) (s ++ [120]) [] 9 (w5.heap.size + 1) (by simp)) (by simp) (HE.out.below hb8)
          rw [holds_x] at k4
          refine k4.mono ?_
          rintro e w' ⟨rfl, rfl⟩
          clear k4
          go_wp2_with fail
          go_ret
          exact ⟨by simp, hb8⟩
end Go.Proofs.YtlbfmapbpbpipaaDoor
