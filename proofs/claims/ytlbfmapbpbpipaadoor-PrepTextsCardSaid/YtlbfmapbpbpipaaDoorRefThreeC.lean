/- The document's own answers of chapter 3 on texts: Single, text, left, right. -/
import Derived.Test.YtlbfmapbpbpipaaDoorRefThreeB
namespace Go.Proofs.YtlbfmapbpbpipaaDoor
open Go.RowKit Go.Lib

def Runes1 (w : World) (ks : List Int) (e : Ending) (w' : World) : Prop :=
  Below w.heap.size w w' ∧ ∃ v, e = .returned v ∧ IntsAt .i32 w' v ks

def lastB (o : List Int) : Bool := decide (o.getLast? = some 32)
def GRel (ks : List Int) (w : World) (ANS : List Int) (v i : Value) (wr : World) : Prop :=
  ∃ (k : Nat) (o : List Int), i = .int .i64 k ∧ k ≤ ks.length ∧ o.length ≤ k ∧ wr.ownsRow w.heap.size 21 1 v o.length (iV .i32 o) ∧ Below w.heap.size w wr ∧ o ++ single (lastB o) (ks.drop k) = ANS

set_option maxRecDepth 100000 in
set_option maxHeartbeats 2000000 in
theorem RefSingle_any (ks : List Int) (v : Value) (w : World) (hv : IntsAt .i32 w v ks) (hl : ks.length ≤ 1099511627776) :
    Calls Tryd.prog 27 #[v] w (Runes1 w (single false ks)) := by
  have HV := Lib.hid hv
  obtain ⟨A, cap, rfl, hcap, hA⟩ := hv
  clear hA
  obtain ⟨ANS, hN⟩ : ∃ ANS, single false ks = ANS := ⟨_, rfl⟩
  rw [hN]
  have HN := Lib.hid hN
  clear hN
  go_enter Tryd.func27, Tryd.ntmps27
  go_wp2_with fail
  go_loopw [3, 4] (fun v i wr => GRel ks w ANS v i wr) (fun _ i _ => ks.length - (RowKit.intOf i).toNat)
  case atStart => exact ⟨0, [], rfl, by omega, by simp, World.ownsRow_nil _ _ _ _, Below.refl _ _, by simpa [lastB] using HN.out⟩
  case round =>
    obtain ⟨k, o, rfl, hk, hkl, hown, hbe, hrun⟩ := hrel
    have HR := Lib.hid hrun
    clear hrun HN
    by_cases hlt : k < ks.length
    · obtain ⟨A', c', hveq, _, hA⟩ := HV.out.below hbe
      obtain ⟨g, of, rfl, hc⟩ := hA (by omega)
      obtain ⟨rfl, rfl⟩ : A = some ⟨g, of, none⟩ ∧ cap = c' := by
        injection hveq with e1 e2 e3
        exact ⟨e1, e3⟩
      have c0 := hc k (ks[k]'hlt) (List.getElem?_eq_getElem hlt)
      have hs := HR.out
      rw [List.drop_eq_getElem_cons hlt, single] at hs
      obtain ⟨x, hx⟩ : ∃ x, ks[k]'hlt = x := ⟨_, rfl⟩
      rw [hx] at c0 hs
      clear hx hc hA hveq HR
      by_cases hd : x = 32 ∧ lastB o = true
      · rw [if_pos hd] at hs
        obtain ⟨hd1, hd2⟩ := hd
        have hlast : o.getLast? = some 32 := of_decide_eq_true hd2
        have ho0 : 0 < o.length := by cases o with | nil => simp at hlast | cons a o => simp
        have x1 : (x != 32) = false := by rw [hd1]; rfl
        have hs2 : o ++ single (lastB o) (ks.drop (k + 1)) = ANS := by rw [hd2]; exact hs
        have HS := Lib.hid hs2
        obtain ⟨g2, cap2, hv2⟩ : ∃ g cap, u3 = .slice (some ⟨g, 0, none⟩) o.length cap := by
          rcases hown.2 with ⟨_, hn⟩ | ⟨g, cap, cur, hv, _⟩
          · omega
          · exact ⟨g, cap, hv⟩
        have hcl : wr.cell? ⟨g2, o.length - 1, none⟩ = some (.int .i32 32) := by
          have := hown.cells (g := g2) (by rw [hv2]; rfl) (o.length - 1) (.int .i32 32) (by
            rw [List.getLast?_eq_getElem?] at hlast
            simp [iV, hlast])
          rw [Addr.add_lit] at this
          simpa using this
        have x2 : ((o.length : Int) == 0) = false := beq_eq_false_iff_ne.2 (by omega)
        clear hs hs2 hd1 hd2 hlast
        subst hv2
        go_wp2_with fail
        go_roundw
        case rel => exact ⟨k + 1, o, by go_num, by omega, by omega, hown, hbe, HS.out⟩
        case measure => simp [RowKit.intOf]; omega
      · rw [if_neg hd] at hs
        have hs2 : (o ++ [x]) ++ single (lastB (o ++ [x])) (ks.drop (k + 1)) = ANS := by
          rw [show lastB (o ++ [x]) = decide (x = 32) by simp [lastB]]
          simpa using hs
        have HS := Lib.hid hs2
        have hsz := hbe.size
        obtain ⟨i0, hi, hz0, hz1, hz2⟩ := info_parts Tryd.infoRune
        have D2 : ∀ u ∈ [Value.int .i32 x], u.oneCell' = true := by intro u hu; simp at hu; subst hu; rfl
        have D3 : o.length + 1 ≤ maxLen := by unfold maxLen; omega
        have D4 : (o.length + 1) * 4 ≤ 140737488355328 := by omega
        have D5 : w.heap.size ≤ (wr.alloc (.cells #[.int .i32 x] 21)).heap.size := by simp; omega
        have fin : ∀ (v' : Value) (w3 : World), w3.ownsRow w.heap.size 21 1 v' (o.length + 1) (iV .i32 o ++ [.int .i32 x]) → (wr.alloc (.cells #[.int .i32 x] 21)).grownBy w3 u3.ownBlock → GRel ks w ANS v' (.int .i64 ((k : Int) + 1)) w3 := by
          intro v' w3 ho hg
          refine ⟨k + 1, o ++ [x], by rw [Int.natCast_add]; rfl, by omega, by simp; omega, ?_, ?_, HS.out⟩
          · rw [List.length_append, show iV .i32 (o ++ [x]) = iV .i32 o ++ [.int .i32 x] by simp [iV]]
            exact ho
          · exact (hbe.alloc hbe.size _).grown hg (by simp; omega) (fun b hb => (hown.lt b hb).1)
        have FIN := Lib.hid fin
        have hcase : (x != 32) = true ∨ ((x != 32) = false ∧ ∃ A cap, u3 = .slice A o.length cap ∧ o.length ≤ 0) ∨ ((x != 32) = false ∧ ((o.length : Int) == 0) = false ∧ ∃ g cap c, u3 = .slice (some ⟨g, 0, none⟩) o.length cap ∧ 0 < o.length ∧ wr.cell? ⟨g, o.length - 1, none⟩ = some (.int .i32 c) ∧ (c != 32) = true) := by
          by_cases h32 : x = 32
          · right
            have h32b : (x != 32) = false := by rw [h32]; rfl
            rcases hown.2 with ⟨hv, hn⟩ | ⟨g, cap, cur, hv, _⟩
            · exact .inl ⟨h32b, none, 0, by rw [hv, hn], by omega⟩
            · by_cases hn : o.length = 0
              · exact .inl ⟨h32b, _, _, hv, by omega⟩
              · refine .inr ⟨h32b, beq_eq_false_iff_ne.2 (by omega), g, cap, o[o.length - 1]'(by omega), hv, by omega, ?_, ?_⟩
                · have := hown.cells (g := g) (by rw [hv]; rfl) (o.length - 1) (.int .i32 (o[o.length - 1]'(by omega))) (by simp [iV])
                  rw [Addr.add_lit] at this
                  simpa using this
                · rw [bne_iff_ne]
                  intro hc
                  apply hd
                  refine ⟨h32, decide_eq_true ?_⟩
                  rw [List.getLast?_eq_getElem?, List.getElem?_eq_getElem (by omega), hc]
          · exact .inl (by rw [bne_iff_ne]; exact h32)
        clear hs hs2 fin hd
        rcases hcase with x1 | ⟨x1, A2, cap2, hv2, hn⟩ | ⟨x1, x2, g2, cap2, c, hv2, ho0, hcl, x3⟩
        · go_wp2_with (at_builtin; refine wpList_append_own _ rfl (.tmp 30) (.tmp 35) 41 rfl w.heap.size 21 i0 (.int .i32 0) 1 4 Tryd.underlying41 hi hz0 hz1 hz2 rfl (by decide) u3 o.length (iV .i32 o) rfl (hown.alloc _) ⟨wr.heap.size, 0, none⟩ 1 1 [.int .i32 x] rfl rfl (cell_one_new _ _ _) D2 D3 D4 D5 ?_; intro v' w3 ho3 hg3 _)
          go_roundw
          case rel => exact FIN.out _ w3 ho3 hg3
          case measure => simp [RowKit.intOf]; omega
        · obtain rfl : o = [] := List.eq_nil_of_length_eq_zero (by omega)
          subst hv2
          have hown0 : wr.ownsRow w.heap.size 21 1 (.slice A2 0 cap2) 0 [] := hown
          have D3' : 0 + 1 ≤ maxLen := D3
          have D4' : (0 + 1) * 4 ≤ 140737488355328 := D4
          clear D3 D4 hn hkl
          go_wp2_with (at_builtin; refine wpList_append_own _ rfl (.tmp 30) (.tmp 35) 41 rfl w.heap.size 21 i0 (.int .i32 0) 1 4 Tryd.underlying41 hi hz0 hz1 hz2 rfl (by decide) _ 0 [] rfl (hown0.alloc _) ⟨wr.heap.size, 0, none⟩ 1 1 [.int .i32 x] rfl rfl (cell_one_new _ _ _) D2 D3' D4' D5 ?_; intro v' w3 ho3 hg3 _)
          go_roundw
          case rel => exact FIN.out _ w3 ho3 hg3
          case measure => simp [RowKit.intOf]; omega
        · subst hv2
          go_wp2_with (at_builtin; refine wpList_append_own _ rfl (.tmp 30) (.tmp 35) 41 rfl w.heap.size 21 i0 (.int .i32 0) 1 4 Tryd.underlying41 hi hz0 hz1 hz2 rfl (by decide) _ o.length (iV .i32 o) rfl (hown.alloc _) ⟨wr.heap.size, 0, none⟩ 1 1 [.int .i32 x] rfl rfl (cell_one_new _ _ _) D2 D3 D4 D5 ?_; intro v' w3 ho3 hg3 _)
          go_roundw
          case rel => exact FIN.out _ w3 ho3 hg3
          case measure => simp [RowKit.intOf]; omega
    · have hs := HR.out
      rw [List.drop_of_length_le (by omega), single, List.append_nil] at hs
      subst hs
      clear HR
      go_wp2_with fail
      go_ret
      exact ⟨hbe, _, rfl, ints_own hown⟩

def leftK (ks : List Int) : List Int := if ks.head? = some 32 then ks.tail else ks
def rightK (ks : List Int) : List Int := if ks.getLast? = some 32 then ks.take (ks.length - 1) else ks
def Runes2 (w : World) (ks : List Int) (e : Ending) (w' : World) : Prop := w = w' ∧ ∃ v, e = .returned v ∧ IntsAt .i32 w v ks

set_option maxHeartbeats 1000000 in
theorem RefLeft_any (ks : List Int) (v : Value) (w : World) (hv : IntsAt .i32 w v ks) (hl : ks.length ≤ 1099511627776) :
    Calls Tryd.prog 26 #[v] w (Runes2 w (leftK ks)) := by
  have HV := Lib.hid hv
  obtain ⟨A, cap, rfl, hcap, hA⟩ := hv
  by_cases h0 : 0 < ks.length
  · obtain ⟨g, o, rfl, hc⟩ := hA h0
    have c0 := hc 0 (ks[0]'h0) (List.getElem?_eq_getElem h0)
    simp only [Nat.add_zero] at c0
    have HC := Lib.hid hc
    by_cases hx : ks[0]'h0 = 32
    · have hk : leftK ks = ks.drop 1 := by
        unfold leftK
        rw [if_pos (by rw [List.head?_eq_getElem?, List.getElem?_eq_getElem h0, hx]), List.drop_one]
      rw [hk]
      rw [hx] at c0
      have fin : ∀ (a : Option Addr), a = (if cap = 1 then some ⟨g, o, none⟩ else some ⟨g, o + 1, none⟩) → IntsAt .i32 w (.slice a (ks.length - 1) (cap - 1)) (ks.drop 1) := by
        intro a ha
        refine ⟨a, cap - 1, by simp, by simp; omega, fun h => ?_⟩
        have hl1 : (ks.drop 1).length = ks.length - 1 := by simp
        refine ⟨g, o + 1, by rw [ha, if_neg (by omega)], fun i x hi => ?_⟩
        rw [show o + 1 + i = o + (1 + i) by omega]
        rw [List.getElem?_drop] at hi
        exact HC.out (1 + i) x hi
      have FIN := Lib.hid fin
      clear fin hk hx hc hA HC
      by_cases hcp : cap = 1
      · subst hcp
        go_enter Tryd.func26, Tryd.ntmps26
        go_wp2_with fail
        go_ret
        have ht : ks.drop 1 = [] := List.drop_of_length_le (by omega)
        refine ⟨rfl, _, rfl, ?_⟩
        first | rw [ht] | (rw [← List.drop_one, ht])
        exact ⟨_, 0, rfl, Nat.le_refl _, fun h => by simp at h⟩
      · have hcp2 : 1 < cap := by omega
        go_enter Tryd.func26, Tryd.ntmps26
        go_wp2_with fail
        go_ret
        exact ⟨rfl, _, rfl, FIN.out _ (by rw [if_neg hcp])⟩
    · have hk : leftK ks = ks := by
        unfold leftK
        rw [if_neg (by rw [List.head?_eq_getElem?, List.getElem?_eq_getElem h0]; simpa using hx)]
      rw [hk]
      obtain ⟨x, hxx⟩ : ∃ x, ks[0]'h0 = x := ⟨_, rfl⟩
      rw [hxx] at c0 hx
      have hb : (x == 32) = false := beq_eq_false_iff_ne.2 hx
      clear hk hx hc hA HC hxx
      go_enter Tryd.func26, Tryd.ntmps26
      go_wp2_with fail
      go_ret
      exact ⟨rfl, _, rfl, HV.out⟩
  · have hk : leftK ks = ks := by
      unfold leftK
      rw [if_neg (by intro h; have : ks = [] := List.eq_nil_of_length_eq_zero (by omega); subst this; simp at h)]
    rw [hk]
    clear hk hA
    go_enter Tryd.func26, Tryd.ntmps26
    go_wp2_with fail
    go_ret
    exact ⟨rfl, _, rfl, HV.out⟩

set_option maxHeartbeats 1000000 in
theorem RefRight_any (ks : List Int) (v : Value) (w : World) (hv : IntsAt .i32 w v ks) (hl : ks.length ≤ 1099511627776) :
    Calls Tryd.prog 25 #[v] w (Runes2 w (rightK ks)) := by
  have HV := Lib.hid hv
  obtain ⟨A, cap, rfl, hcap, hA⟩ := hv
  by_cases h0 : 0 < ks.length
  · obtain ⟨g, o, rfl, hc⟩ := hA h0
    have hlt : ks.length - 1 < ks.length := by omega
    have c0 := hc (ks.length - 1) (ks[ks.length - 1]'hlt) (List.getElem?_eq_getElem hlt)
    have HC := Lib.hid hc
    have hgl : ks.getLast? = some (ks[ks.length - 1]'hlt) := by rw [List.getLast?_eq_getElem?, List.getElem?_eq_getElem hlt]
    obtain ⟨x, hxx⟩ : ∃ x, ks[ks.length - 1]'hlt = x := ⟨_, rfl⟩
    rw [hxx] at c0 hgl
    by_cases hx : x = 32
    · have hk : rightK ks = ks.take (ks.length - 1) := by
        unfold rightK
        rw [if_pos (by rw [hgl, hx])]
      rw [hk]
      have hb : (x == 32) = true := by rw [hx]; rfl
      have fin : IntsAt .i32 w (.slice (some ⟨g, o, none⟩) (ks.length - 1) cap) (ks.take (ks.length - 1)) := by
        have hl1 : (ks.take (ks.length - 1)).length = ks.length - 1 := by simp
        refine ⟨some ⟨g, o, none⟩, cap, by rw [hl1], by rw [hl1]; omega, fun h => ⟨g, o, rfl, fun i y hi => ?_⟩⟩
        have hil : i < ks.length - 1 := by
          rcases Nat.lt_or_ge i (ks.length - 1) with h | h
          · exact h
          · rw [List.getElem?_eq_none (by omega)] at hi; cases hi
        rw [List.getElem?_take_of_lt hil] at hi
        exact HC.out i y hi
      have FIN := Lib.hid fin
      clear fin hk hx hc hA HC hgl hxx
      go_enter Tryd.func25, Tryd.ntmps25
      go_wp2_with fail
      go_ret
      exact ⟨rfl, _, rfl, FIN.out⟩
    · have hk : rightK ks = ks := by
        unfold rightK
        rw [if_neg (by rw [hgl]; simpa using hx)]
      rw [hk]
      have hb : (x == 32) = false := beq_eq_false_iff_ne.2 hx
      clear hk hx hc hA HC hgl hxx
      go_enter Tryd.func25, Tryd.ntmps25
      go_wp2_with fail
      go_ret
      exact ⟨rfl, _, rfl, HV.out⟩
  · have hk : rightK ks = ks := by
      unfold rightK
      rw [if_neg (by intro h; have : ks = [] := List.eq_nil_of_length_eq_zero (by omega); subst this; simp at h)]
    rw [hk]
    clear hk hA
    go_enter Tryd.func25, Tryd.ntmps25
    go_wp2_with fail
    go_ret
    exact ⟨rfl, _, rfl, HV.out⟩
end Go.Proofs.YtlbfmapbpbpipaaDoor
