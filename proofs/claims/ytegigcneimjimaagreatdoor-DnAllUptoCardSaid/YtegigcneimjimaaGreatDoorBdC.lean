/- chancerybook: marks and copies of parts and names. -/
import Derived.Test.YtegigcneimjimaaGreatDoorDnN
import Derived.Test.YtegigcneimjimaaGreatDoorPlainBook
import Derived.Test.YtegigcneimjimaaGreatDoorDnJ
namespace Go.Proofs.YtegigcneimjimaaGreatDoor
open Go.RowKit Go.Lib

theorem name_cells (i k : Nat) : (#[.int .u8 109, .int .u8 (65 + (i : Int) % 26), .int .u8 (65 + (i : Int) / 26 % 26), .int .u8 (48 + (k : Int) % 10), .int .u8 (48 + (k : Int) / 10 % 10), .int .u8 (48 + (k : Int) / 100 % 10)] : Array Value) = (bV (nameL i k)).toArray := by
  have e : ∀ n : Nat, n < 256 → (((UInt8.ofNat n).toNat : Nat) : Int) = (n : Int) := fun n h => by simp; omega
  simp only [bV, nameL, List.map_cons, List.map_nil]
  rw [e _ (by omega), e _ (by omega), e _ (by omega), e _ (by omega), e _ (by omega)]
  rfl
set_option maxRecDepth 100000 in
set_option maxHeartbeats 2000000 in
theorem bname_any (i k : Nat) (w : World) (hi : i ≤ 1000000) (hk : k ≤ 1000000) :
    Calls Tryz.prog 245 #[.int .i64 (i : Int), .int .i64 (k : Int)] w fun e w' => e = .returned (.string ⟨(nameL i k).toArray⟩) ∧ Below w.heap.size w w' := by
  have hc : ∀ g, g = w.heap.size → (convert 153 9 (.slice (some ⟨g, 0, none⟩) 6 6)).run Tryz.prog (w.alloc (.cells #[.int .u8 109, .int .u8 (65 + (i : Int) % 26), .int .u8 (65 + (i : Int) / 26 % 26), .int .u8 (48 + (k : Int) % 10), .int .u8 (48 + (k : Int) / 10 % 10), .int .u8 (48 + (k : Int) / 100 % 10)] 5)) =
      .ok (.string ⟨(nameL i k).toArray⟩) (w.alloc (.cells #[.int .u8 109, .int .u8 (65 + (i : Int) % 26), .int .u8 (65 + (i : Int) / 26 % 26), .int .u8 (48 + (k : Int) % 10), .int .u8 (48 + (k : Int) / 10 % 10), .int .u8 (48 + (k : Int) / 100 % 10)] 5)) := by
    intro g hg
    subst hg
    rw [name_cells]
    exact run_str_cells (P := Tryz.prog) _ 153 9 5 ⟨w.heap.size, 0, none⟩ 6 (nameL i k) Tryz.underlying153 Tryz.underlying5 Tryz.underlying9 (cells_new w (bV (nameL i k)) 5)
  have hc1 := hc _ rfl
  clear hc
  go_enter Tryz.func245, Tryz.ntmps245
  go_wp2_with fail
  go_ret
  exact ⟨rfl, (Below.refl _ _).alloc (Nat.le_refl _) _⟩
theorem aV_one (r : List Av) : ∀ u ∈ aV r, u.oneCell' = true := by
  intro u hu
  simp only [aV, List.mem_flatMap, List.mem_cons, List.not_mem_nil, or_false] at hu
  obtain ⟨x, _, rfl | rfl⟩ := hu <;> rfl
theorem prs_snoc (l : List (List UInt8)) (x : List UInt8) : aV (prs (l ++ [x])) = aV (prs l) ++ [.string ⟨x.toArray⟩, .string ⟨#[]⟩] := by
  rw [prs_append, aV_append]; rfl
def MkRel (w : World) (i fr n : Nat) (v q : Value) (wr : World) : Prop :=
  ∃ k : Nat, k ≤ n ∧ q = .int .i64 ((fr + k : Nat) : Int) ∧ wr.ownsRow w.heap.size 146 2 v k (aV (prs (mkN i fr k))) ∧ Below w.heap.size w wr
set_option maxRecDepth 100000 in
set_option maxHeartbeats 2000000 in
theorem markAvas_any (i fr n : Nat) (w : World) (hi : i ≤ 1000000) (hk : fr + n ≤ 1000000) :
    Calls Tryz.prog 190 #[.int .i64 (i : Int), .int .i64 (fr : Int), .int .i64 (n : Int)] w fun e w' => (∃ v, e = .returned v ∧ w'.ownsRow w.heap.size 146 2 v n (aV (prs (mkN i fr n)))) ∧ Below w.heap.size w w' := by
  obtain ⟨i0, hi0, hz0, hz1, hz2⟩ := info_parts Tryz.infoAva
  go_enter Tryz.func190, Tryz.ntmps190
  go_wp2_with fail
  go_loopw [7, 8] (fun v q wr => MkRel w i fr n v q wr) (fun _ q _ => fr + n - (RowKit.intOf q).toNat)
  case atStart => exact ⟨0, by omega, rfl, World.ownsRow_nil _ _ _ _, Below.refl _ _⟩
  case round =>
    obtain ⟨k, hk, rfl, hown, hbe⟩ := hrel
    have hsz := hbe.size
    by_cases hlt : k < n
    · have g1 : decide (((fr + k : Nat) : Int) < (fr : Int) + (n : Int)) = true := decide_eq_true (by omega)
      have kn := bname_any i (fr + k) wr hi (by omega)
      have hms := mkN_succ i fr k
      have HM := Lib.hid hms
      clear hms
      go_wp2_with (first | (go_at_call 245; refine Calls.mono (show Calls _ _ _ _ _ from kn) ?_; rintro e w4 ⟨rfl, hb4⟩; have hown4 := ownBelow hown hb4; have hbe4 := below_ext hbe hb4; have hsz4 := hbe4.size) | (at_builtin; refine wpList_append_own_at _ rfl (.tmp 17) (.tmp 22) 65 rfl w.heap.size 146 i0 (.agg #[.string ⟨#[]⟩, .string ⟨#[]⟩]) 2 32 Tryz.underlying65 hi0 hz0 hz1 hz2 rfl (by decide) u7 k (aV (prs (mkN i fr k))) rfl (hown4.alloc _) ⟨w4.heap.size, 0, none⟩ 1 1 [.string ⟨(nameL i (fr + k)).toArray⟩, .string ⟨#[]⟩] rfl rfl ?d1 ?d2 ?d3 ?d4 ?d5 ?_))
      case d1 => exact cells_new w4 [.string ⟨(nameL i (fr + k)).toArray⟩, .string ⟨#[]⟩] 146
      case d2 => intro u hu; simp at hu; rcases hu with rfl | rfl <;> rfl
      case d3 => unfold maxLen; omega
      case d4 => omega
      case d5 => simp; omega
      intro v' w7 ho7 hg7 _ hat7
      rw [← prs_snoc, ← HM.out] at ho7
      go_wp2_with fail
      go_roundw
      case rel => exact ⟨k + 1, by omega, by go_num, ho7, (hbe4.alloc hsz4 _).grown hg7 (by simp; omega) (fun b hb => (hown4.lt b hb).1)⟩
      case measure => simp [RowKit.intOf]; omega
    · obtain rfl : k = n := by omega
      have g1 : decide (((fr + k : Nat) : Int) < (fr : Int) + (k : Int)) = false := decide_eq_false (by omega)
      go_wp2_with fail
      go_ret
      exact ⟨⟨_, rfl, hown⟩, hbe⟩
end Go.Proofs.YtegigcneimjimaaGreatDoor
namespace Go.Proofs.YtegigcneimjimaaGreatDoor
open Go.RowKit Go.Lib

theorem beqN (n a : Nat) : (((n : Int) == (a : Int))) = (n == a) := by rw [Bool.eq_iff_iff]; simp; omega
set_option maxRecDepth 100000 in
set_option maxHeartbeats 2000000 in
theorem copyAvas_any (v : Value) (r : List Av) (w : World) (h : AvsAt w v r) (hl : r.length ≤ 1000000) :
    Calls Tryz.prog 123 #[v] w fun e w' => (∃ v', e = .returned v' ∧ w'.ownsRow w.heap.size 146 2 v' r.length (aV r)) ∧ Below w.heap.size w w' := by
  obtain ⟨i0, hi0, hz0, hz1, hz2⟩ := info_parts Tryz.infoAva
  obtain ⟨a, cap, rfl, hc, hr⟩ := h
  cases a with
  | none =>
    have h0 : r = [] := by
      rcases Classical.em (r = []) with h | h
      · exact h
      · obtain ⟨g, o, hh, _⟩ := hr h; cases hh
    subst h0
    clear hr
    go_enter Tryz.func123, Tryz.ntmps123
    go_wp2_with (at_builtin; refine wpList_append_void rfl (.const (.slice none 0 0)) (.tmp 3) 65 rfl w.heap.size 146 i0 2 Tryz.underlying65 hi0 (.slice none 0 0) 0 [] rfl (World.ownsRow_nil _ _ _ _) cap rfl ?_)
    go_ret
    exact ⟨⟨_, rfl, World.ownsRow_nil _ _ _ _⟩, Below.refl _ _⟩
  | some ad =>
    have hcells : ∀ i u, (aV r)[i]? = some u → w.cell? (ad.add i) = some u := by
      intro i u hi
      have h0 : r ≠ [] := by rintro rfl; simp [aV] at hi
      obtain ⟨g, o, hh, hcell⟩ := hr h0
      cases hh
      exact aV_cells hcell i u hi
    have HC := Lib.hid hcells
    clear hcells hr
    go_enter Tryz.func123, Tryz.ntmps123
    go_wp2_with (at_builtin; refine wpList_append_own _ rfl (.const (.slice none 0 0)) (.tmp 3) 65 rfl w.heap.size 146 i0 (.agg #[.string ⟨#[]⟩, .string ⟨#[]⟩]) 2 32 Tryz.underlying65 hi0 hz0 hz1 hz2 rfl (by decide) (.slice none 0 0) 0 [] rfl (World.ownsRow_nil _ _ _ _) ad r.length cap (aV r) rfl (aV_length r) HC.out (aV_one r) ?d3 ?d4 (Nat.le_refl _) ?_)
    case d3 => unfold maxLen; omega
    case d4 => omega
    intro v' w7 ho7 hg7 _
    go_wp2_with fail
    go_ret
    exact ⟨⟨_, rfl, ho7⟩, (Below.refl w.heap.size w).grown hg7 (Nat.le_refl _) (fun b hb => by cases hb)⟩
set_option maxRecDepth 100000 in
set_option maxHeartbeats 4000000 in
theorem SAvas_any (v u : Value) (r q : List Av) (w : World) (h1 : AvsAt w v r) (h2 : AvsAt w u q) (hl : r.length ≤ 1000000) (_hl2 : q.length ≤ 1000000) :
    Calls Tryz.prog 168 #[v, u] w fun e w' => e = .returned (.bool (decide (r = q))) ∧ ∃ m, w' = w.drewN m := by
  have H1 := Lib.hid h1
  have H2 := Lib.hid h2
  obtain ⟨a1, c1, rfl, hc1, hx1⟩ := h1
  obtain ⟨a2, c2, rfl, hc2, hx2⟩ := h2
  clear hx1 hx2
  by_cases hlen : r.length = q.length
  · have hq : ((r.length : Int) == (q.length : Int)) = true := by rw [beqN]; simpa using hlen
    have hq2 : ((r.length : Int) != (q.length : Int)) = false := by rw [bne, hq]; rfl
    have HL := Lib.hid hlen
    have hlq : q.length = r.length := hlen.symm
    obtain ⟨ANS, hA⟩ : ∃ ANS, decide (r = q) = ANS := ⟨_, rfl⟩
    rw [hA]
    have HA := Lib.hid hA
    clear hA hlq hlen
    go_enter Tryz.func168, Tryz.ntmps168
    go_wp2_with fail
    go_loopw [5] (fun i wr => ∃ k m : Nat, i = .int .i64 (k : Int) ∧ k ≤ r.length ∧ wr = w.drewN m ∧ decide (r.drop k = q.drop k) = ANS) (fun i _ => r.length - (RowKit.intOf i).toNat)
    case atStart => exact ⟨0, 0, rfl, by omega, rfl, HA.out⟩
    case round =>
      obtain ⟨k, m, rfl, hk, rfl, hans⟩ := hrel
      clear HA hq hq2
      have hlen := HL.out
      by_cases hkl : k < r.length
      · have hkl2 : k < q.length := by omega
        obtain ⟨x, hx⟩ : ∃ x, r[k] = x := ⟨_, rfl⟩
        obtain ⟨y, hy⟩ : ∃ y, q[k] = y := ⟨_, rfl⟩
        have hxk : r[k]? = some x := by rw [List.getElem?_eq_getElem hkl, hx]
        have hyk : q[k]? = some y := by rw [List.getElem?_eq_getElem hkl2, hy]
        have hr0 : r ≠ [] := by intro e; rw [e] at hkl; simp at hkl
        have hq0 : q ≠ [] := by intro e; rw [e] at hkl2; simp at hkl2
        rw [List.drop_eq_getElem_cons hkl, hx, List.drop_eq_getElem_cons hkl2, hy] at hans
        obtain ⟨a3, cap3, e3, _, hcell⟩ := H1.out
        obtain ⟨g, o, ha, hcc⟩ := hcell hr0
        obtain ⟨a4, cap4, e4, _, hcell4⟩ := H2.out
        obtain ⟨g', o', ha', hcc'⟩ := hcell4 hq0
        cases e3
        cases e4
        subst ha ha'
        obtain ⟨p1, p2⟩ := hcc k x hxk
        obtain ⟨p3, p4⟩ := hcc' k y hyk
        rw [Nat.mul_comm] at p1 p2 p3 p4
        clear hcc hcell hcc' hcell4 hxk hyk hx hy hr0 hq0 hlen
        have i1 : (k : Int) < (r.length : Int) := by omega
        have i2 : (k : Int) < (q.length : Int) := by omega
        have i3 : decide ((k : Int) < (r.length : Int)) = true := decide_eq_true i1
        by_cases hxy : x = y
        · subst hxy
          have hans2 : decide (r.drop (k + 1) = q.drop (k + 1)) = ANS := by rw [← hans]; exact decide_eq_decide.2 (by simp)
          have HS := Lib.hid hans2
          clear hans hans2
          go_wp2
          go_quiet (fail)
          go_wp2
          exact ⟨⟨k + 1, _, by go_num, by omega, rfl, HS.out⟩, by simp [RowKit.intOf]; omega⟩
        · have e : ANS = false := by rw [← hans]; exact decide_eq_false (fun e => hxy (List.cons.inj e).1)
          subst e
          clear hans
          by_cases h1 : x.1 = y.1
          · have h2 : x.2 ≠ y.2 := fun e => hxy (Prod.ext h1 e)
            have b1 : (x.1 == y.1) = true := by simpa using h1
            have b2 : (x.2 == y.2) = false := by simpa using h2
            clear h1 h2 hxy
            go_wp2
            go_quiet (fail)
            go_wp2
            go_ret
            exact ⟨rfl, _, World.drewN_drewN _ _ _⟩
          · have b1 : (x.1 == y.1) = false := by simpa using h1
            clear h1 hxy
            go_wp2
            go_quiet (fail)
            go_wp2
            go_ret
            exact ⟨rfl, _, World.drewN_drewN _ _ _⟩
      · obtain rfl : k = r.length := by omega
        have e : ANS = true := by rw [← hans, List.drop_of_length_le (Nat.le_refl _), hlen, List.drop_of_length_le (Nat.le_refl _)]; rfl
        subst e
        have i3 : decide (((r.length : Nat) : Int) < (r.length : Int)) = false := decide_eq_false (by omega)
        clear hlen hans
        go_wp2_with fail
        go_ret
        exact ⟨rfl, _, rfl⟩
  · have hq : ((r.length : Int) == (q.length : Int)) = false := by rw [beqN]; simpa using hlen
    have hq2 : ((r.length : Int) != (q.length : Int)) = true := by rw [bne, hq]; rfl
    have e : decide (r = q) = false := decide_eq_false (fun e => hlen (by rw [e]))
    rw [e]
    clear hlen e
    go_enter Tryz.func168, Tryz.ntmps168
    go_wp2_with fail
    go_ret
    exact ⟨rfl, 0, rfl⟩
end Go.Proofs.YtegigcneimjimaaGreatDoor
namespace Go.Proofs.YtegigcneimjimaaGreatDoor
open Go.RowKit Go.Lib

/-- Parts of one pair each, which bears a name alone. -/
def rds (l : List (List UInt8)) : List (List Av) := l.map fun s => [(s, [])]
theorem rds_length (l : List (List UInt8)) : (rds l).length = l.length := by simp [rds]
theorem rds_snoc (l : List (List UInt8)) (x : List UInt8) : rds (l ++ [x]) = rds l ++ [[(x, [])]] := by simp [rds]
theorem cells_num (w : World) (xs : List Value) (t : TypeId) (n : Nat) (hn : w.heap.size = n) : ∀ j u, xs[j]? = some u → (w.alloc (.cells xs.toArray t)).cell? ((⟨n, 0, none⟩ : Addr).add j) = some u := by
  subst hn
  exact cells_new w xs t
def MdRel (w : World) (i fr n : Nat) (v q : Value) (wr : World) : Prop :=
  ∃ (k : Nat) (vs : List Value), k ≤ n ∧ q = .int .i64 ((fr + k : Nat) : Int) ∧ wr.ownsRow w.heap.size 66 1 v k vs ∧ AllC w.heap.size wr vs (rds (mkN i fr k)) ∧ Off vs v ∧ Sep vs ∧ Below w.heap.size w wr
set_option maxRecDepth 100000 in
set_option maxHeartbeats 2000000 in
theorem markRdns_any (i fr n : Nat) (w : World) (hi : i ≤ 1000000) (hk : fr + n ≤ 1000000) :
    Calls Tryz.prog 186 #[.int .i64 (i : Int), .int .i64 (fr : Int), .int .i64 (n : Int)] w fun e w' => (∃ v, e = .returned v ∧ OwnD w.heap.size w' v (rds (mkN i fr n))) ∧ Below w.heap.size w w' := by
  obtain ⟨i0, hi0, hz0, hz1, hz2⟩ := info_parts Tryz.infoRdn
  go_enter Tryz.func186, Tryz.ntmps186
  go_wp2_with fail
  go_loopw [7, 8] (fun v q wr => MdRel w i fr n v q wr) (fun _ q _ => fr + n - (RowKit.intOf q).toNat)
  case atStart => exact ⟨0, [], by omega, rfl, World.ownsRow_nil _ _ _ _, ⟨rfl, fun j r hj => (by simp [mkN, rds] at hj)⟩, fun u hu => (by cases hu), Sep.nil, Below.refl _ _⟩
  case round =>
    obtain ⟨k, vs, hk, rfl, hown, hall, hoff, hsep, hbe⟩ := hrel
    have hsz := hbe.size
    by_cases hlt : k < n
    · have g1 : decide (((fr + k : Nat) : Int) < (fr : Int) + (n : Int)) = true := decide_eq_true (by omega)
      have kn := bname_any i (fr + k) wr hi (by omega)
      have hms := mkN_succ i fr k
      have HM := Lib.hid hms
      clear hms
      go_wp2_with (first | (go_at_call 245; refine Calls.mono (show Calls _ _ _ _ _ from kn) ?_; rintro e w4 ⟨rfl, hb4⟩; have hown4 := ownBelow hown hb4; have hall4 := hall.below hb4; have hbe4 := below_ext hbe hb4; have hsz4 := hbe4.size) | (at_builtin; refine wpList_append_own_at _ rfl (.tmp 17) (.tmp 23) 59 rfl w.heap.size 66 i0 (.slice none 0 0) 1 24 Tryz.underlying59 hi0 hz0 hz1 hz2 rfl (by decide) u7 k vs rfl ((hown4.alloc _).alloc _) ⟨w4.heap.size + 1, 0, none⟩ 1 1 [.slice (some ⟨w4.heap.size, 0, none⟩) 1 1] rfl rfl ?d1 ?d2 ?d3 ?d4 ?d5 ?_))
      case d1 => exact cells_num (w4.alloc _) [.slice (some ⟨w4.heap.size, 0, none⟩) 1 1] 66 _ (by simp)
      case d2 => intro u hu; simp at hu; subst hu; rfl
      case d3 => unfold maxLen; omega
      case d4 => omega
      case d5 => simp; omega
      intro v' w7 ho7 hg7 _ hat7
      have hbA : Below w4.heap.size w4 (w4.alloc (.cells #[.string ⟨(nameL i (fr + k)).toArray⟩, .string ⟨#[]⟩] 146)) := (Below.refl _ _).alloc (Nat.le_refl _) _
      have hbB : Below w4.heap.size w4 ((w4.alloc (.cells #[.string ⟨(nameL i (fr + k)).toArray⟩, .string ⟨#[]⟩] 146)).alloc (.cells #[.slice (some ⟨w4.heap.size, 0, none⟩) 1 1] 66)) := hbA.alloc hbA.size _
      have hv5 : AvsC w.heap.size ((w4.alloc (.cells #[.string ⟨(nameL i (fr + k)).toArray⟩, .string ⟨#[]⟩] 146)).alloc (.cells #[.slice (some ⟨w4.heap.size, 0, none⟩) 1 1] 66)) (.slice (some ⟨w4.heap.size, 0, none⟩) 1 1) [(nameL i (fr + k), [])] :=
        World.ownsRow.alloc (own_new2 w4 w.heap.size hsz4 (nameL i (fr + k), [])) _
      have hall6 := (hall4.below hbB).snoc hv5
      have hsz3 : wr.heap.size ≤ w4.heap.size := hb4.size
      have hoff6 : Off (vs ++ [.slice (some ⟨w4.heap.size, 0, none⟩) 1 1]) u7 := by
        intro u hu j hj e
        rcases List.mem_append.1 hu with hu | hu
        · exact hoff u hu j hj e
        · simp at hu
          subst hu
          have h1 : w4.heap.size = j := Option.some.inj e
          have h2 := (hown.lt j hj).2
          omega
      have hsep6 : Sep (vs ++ [.slice (some ⟨w4.heap.size, 0, none⟩) 1 1]) := hsep.snoc (fun u hu j hj e => by
        have h1 : w4.heap.size = j := Option.some.inj e
        have h2 := hall.lt hu hj
        omega)
      have hall7 := hall6.grown hg7 (fun u hu j hj e => hoff6 u hu j hj e)
      have hoff7 : Off (vs ++ [.slice (some ⟨w4.heap.size, 0, none⟩) 1 1]) v' := by
        intro u hu j hj e
        rcases hat7 with h' | h'
        · exact hoff6 u hu j (h' ▸ hj) e
        · have hg := hall6.lt hu e
          rw [h'] at hj
          have e1 := Option.some.inj hj
          simp at hg e1
          omega
      rw [← rds_snoc, ← HM.out] at hall7
      go_wp2_with fail
      go_roundw
      case rel => exact ⟨k + 1, _, by omega, by go_num, ho7, hall7, hoff7, hsep6, (hbe4.trans (hbB.mono hsz4)).grown hg7 (by simp; omega) (fun b hb => (hown4.lt b hb).1)⟩
      case measure => simp [RowKit.intOf]; omega
    · obtain rfl : k = n := by omega
      have g1 : decide (((fr + k : Nat) : Int) < (fr : Int) + (k : Int)) = false := decide_eq_false (by omega)
      have hfin : OwnD w.heap.size wr u7 (rds (mkN i fr k)) := ⟨vs, by rw [rds_length, mkN_length]; exact hown, fun j r hj => by obtain ⟨u, h1, h2⟩ := hall.2 j r hj; exact ⟨u, h1, h2⟩, hsep⟩
      go_wp2_with fail
      go_ret
      exact ⟨⟨_, rfl, hfin⟩, hbe⟩
def CrRel (w : World) (B : Nat) (d : List (List Av)) (us : List Value) (g cap : Nat) (q : Value) (wr : World) : Prop :=
  ∃ (k : Nat) (cs : List Value), k ≤ d.length ∧ q = .int .i64 (k : Int) ∧ cs.length = k ∧ wr.ownsRow B 66 1 (.slice (some ⟨g, 0, none⟩) d.length cap) d.length (cs ++ us.drop k) ∧ AllC B wr cs (d.take k) ∧ Sep cs ∧ (∀ c ∈ cs, c.ownBlock ≠ some g) ∧ Below B w wr
theorem set_mid {α : Type _} (a b : List α) (x y : α) : (a ++ x :: b).set a.length y = (a ++ [y]) ++ b := by simp
set_option maxRecDepth 100000 in
set_option maxHeartbeats 4000000 in
theorem copyRdns_any (v : Value) (d : List (List Av)) (w : World) (h : DnAt w v d) (hl : d.length ≤ 1000000) (hr : ∀ r ∈ d, r.length ≤ 1000000) :
    Calls Tryz.prog 206 #[v] w fun e w' => (∃ v', e = .returned v' ∧ OwnD w.heap.size w' v' d) ∧ Below w.heap.size w w' := by
  obtain ⟨i0, hi0, hz0, hz1, hz2⟩ := info_parts Tryz.infoRdn
  obtain ⟨a, cap, us, rfl, hus, huc, hnone, hcells, hone, hall⟩ := dn_vals h
  have HN := Lib.hid hnone
  have HC := Lib.hid hcells
  have HO := Lib.hid hone
  have HA := Lib.hid hall
  have HR := Lib.hid hr
  have HU := Lib.hid hus
  have hul : us.length ≤ 1000000 := by omega
  clear hcells hone hall hr hus hnone h
  by_cases h0 : us.length = 0
  · have hd0 : d = [] := List.eq_nil_of_length_eq_zero (by rw [← HU.out]; exact h0)
    have hu0 : us = [] := List.eq_nil_of_length_eq_zero h0
    subst hd0 hu0
    clear h0
    cases a with
    | none =>
      go_enter Tryz.func206, Tryz.ntmps206
      go_wp2_with (at_builtin; refine wpList_append_void rfl (.const (.slice none 0 0)) (.tmp 4) 59 rfl w.heap.size 66 i0 1 Tryz.underlying59 hi0 (.slice none 0 0) 0 [] rfl (World.ownsRow_nil _ _ _ _) cap rfl ?_)
      go_loopw [3] (fun q wr => q = .int .i64 0 ∧ wr = w) (fun _ _ => 0)
      case atStart => exact ⟨rfl, rfl⟩
      case round =>
        obtain ⟨rfl, rfl⟩ := hrel
        go_wp2_with fail
        go_ret
        exact ⟨⟨_, rfl, OwnD.nil _ _⟩, Below.refl _ _⟩
    | some ad =>
      go_enter Tryz.func206, Tryz.ntmps206
      go_wp2_with (at_builtin; refine wpList_append_own _ rfl (.const (.slice none 0 0)) (.tmp 4) 59 rfl w.heap.size 66 i0 (.slice none 0 0) 1 24 Tryz.underlying59 hi0 hz0 hz1 hz2 rfl (by decide) (.slice none 0 0) 0 [] rfl (World.ownsRow_nil _ _ _ _) ad 0 cap [] rfl rfl (fun j u hj => by simp at hj) (fun u hu => by cases hu) (by decide) (by decide) (Nat.le_refl _) ?_)
      intro v' w7 ho7 hg7 hn7
      obtain rfl := hn7
      have hb7 : Below w.heap.size w w7 := (Below.refl w.heap.size w).grown hg7 (Nat.le_refl _) (fun b hb => by cases hb)
      go_wp2_with fail
      go_loopw [3] (fun q wr => q = .int .i64 0 ∧ wr = w7) (fun _ _ => 0)
      case atStart => exact ⟨rfl, rfl⟩
      case round =>
        obtain ⟨rfl, rfl⟩ := hrel
        go_wp2_with fail
        go_ret
        exact ⟨⟨_, rfl, OwnD.nil _ _⟩, hb7⟩
  · have hpos : 0 < us.length := by omega
    cases a with
    | none => exact absurd (HN.out rfl) (fun e => by rw [e] at hpos; cases hpos)
    | some ad =>
      clear HN h0
      go_enter Tryz.func206, Tryz.ntmps206
      go_wp2_with (at_builtin; refine wpList_append_lies _ rfl (.const (.slice none 0 0)) (.tmp 4) 59 rfl w.heap.size 66 i0 (.slice none 0 0) 1 24 Tryz.underlying59 hi0 hz0 hz1 hz2 rfl (by decide) (.slice none 0 0) 0 [] rfl (World.ownsRow_nil _ _ _ _) ad us.length cap us rfl (by rw [Nat.mul_one]) (HC.out ad rfl) HO.out hpos ?e3 ?e4 (Nat.le_refl _) w.heap.size rfl ?_)
      case e3 => unfold maxLen; omega
      case e4 => omega
      intro g cap7 w7 ho7 hg7 hat7 hlt7
      rw [HU.out] at ho7 ⊢
      have hb7 : Below w.heap.size w w7 := (Below.refl w.heap.size w).grown hg7 (Nat.le_refl _) (fun b hb => by cases hb)
      have hgB : w.heap.size ≤ g := by
        rcases hat7 with h | h
        · cases h
        · omega
      clear hat7 hg7
      go_wp2_with fail
      go_loopw [3] (fun q wr => CrRel w w.heap.size d us g cap7 q wr) (fun q _ => d.length - (RowKit.intOf q).toNat)
      case atStart => exact ⟨0, [], by omega, rfl, rfl, by simpa using ho7, ⟨rfl, fun j r hj => (by simp at hj)⟩, Sep.nil, fun c hc => (by cases hc), hb7⟩
      case round =>
        obtain ⟨k, cs, hk, rfl, hcl, hown, hall, hsep, hoff, hbe⟩ := hrel
        have hsz := hbe.size
        by_cases hkl : k < d.length
        · have g1 : decide ((k : Int) < (d.length : Int)) = true := decide_eq_true (by omega)
          have g2 : (k : Int) < (d.length : Int) := by omega
          obtain ⟨x, hx⟩ : ∃ x, d[k] = x := ⟨_, rfl⟩
          have hxk : d[k]? = some x := by rw [List.getElem?_eq_getElem hkl, hx]
          obtain ⟨y, hy, hyx⟩ := HA.out k x hxk
          have hdrop : us.drop k = y :: us.drop (k + 1) := by
            obtain ⟨hlt, e⟩ := List.getElem?_eq_some_iff.1 hy
            rw [List.drop_eq_getElem_cons hlt, e]
          rw [hdrop] at hown
          have hc1 : wr.cell? ⟨g, k, none⟩ = some y := by
            have := hown.cells (g := g) rfl k y (by rw [List.getElem?_append_right (by omega), hcl, Nat.sub_self]; rfl)
            rw [Addr.add_lit, Nat.zero_add] at this
            exact this
          have kc := copyAvas_any y x wr (hyx.below hbe) (HR.out x (List.mem_of_getElem? hxk))
          have htk : d.take (k + 1) = d.take k ++ [x] := by rw [List.take_add_one, hxk]; rfl
          have HT := Lib.hid htk
          clear hx hxk hy htk hdrop
          obtain ⟨ay, cy, hye, _, _⟩ := hyx
          subst hye
          go_wp2_with (go_at_call 123; refine Calls.mono (show Calls _ _ _ _ _ from kc) ?_; rintro e w4 ⟨⟨v4, rfl, hv4⟩, hb4⟩; have hown4 := ownBelow hown hb4; have hall4 := hall.below hb4; have hbe4 := below_ext hbe hb4; have hsz4 := hbe4.size; have hc4 := (hb4.cell (lt_of_cell hc1)).trans hc1; have hf4 := hown4.frozenAt k; obtain ⟨a4, c4, he4, _, _⟩ := own_avs hv4; subst he4)
          obtain ⟨hown5, hg5⟩ := hown4.stored k (.slice a4 x.length c4)
          have hgl : g < wr.heap.size := (hown.lt g rfl).2
          have hset : (cs ++ .slice ay x.length cy :: us.drop (k + 1)).set k (.slice a4 x.length c4) = (cs ++ [.slice a4 x.length c4]) ++ us.drop (k + 1) := by rw [← hcl]; exact set_mid _ _ _ _
          rw [hset] at hown5
          have hall5 := (hall4.snoc ((show AvsC wr.heap.size w4 _ x from hv4).mono hsz)).grown hg5 (fun u hu j hj e => by
            cases hj
            rcases List.mem_append.1 hu with hu | hu
            · exact hoff u hu e
            · simp at hu
              subst hu
              have := (hv4.lt _ e).1
              omega)
          rw [← HT.out] at hall5
          go_wp2_with fail
          go_roundw
          case rel =>
            refine ⟨k + 1, _, by omega, by go_num, by simp [hcl], hown5, hall5, hsep.snoc (fun u hu j hj e => ?_), ?_, hbe4.setCell hgB _⟩
            · have h1 := hall.lt hu hj
              have h2 := (hv4.lt _ e).1
              omega
            · intro c hc e
              rcases List.mem_append.1 hc with hc | hc
              · exact hoff c hc e
              · simp at hc
                subst hc
                have := (hv4.lt _ e).1
                omega
          case measure => simp [RowKit.intOf]; omega
        · obtain rfl : k = d.length := by omega
          have g1 : decide (((d.length : Nat) : Int) < (d.length : Int)) = false := decide_eq_false (by omega)
          have hu0 : us.drop d.length = [] := List.drop_of_length_le (by rw [HU.out]; exact Nat.le_refl _)
          rw [hu0, List.append_nil] at hown
          rw [List.take_of_length_le (Nat.le_refl _)] at hall
          clear hu0
          have hfin : OwnD w.heap.size wr (.slice (some ⟨g, 0, none⟩) d.length cap7) d := ⟨cs, hown, fun j r hj => by obtain ⟨u, h1, h2⟩ := hall.2 j r hj; exact ⟨u, h1, h2⟩, hsep⟩
          clear hown hall hsep hoff hcl
          go_wp2_with fail
          go_ret
          exact ⟨⟨_, rfl, hfin⟩, hbe⟩
end Go.Proofs.YtegigcneimjimaaGreatDoor
