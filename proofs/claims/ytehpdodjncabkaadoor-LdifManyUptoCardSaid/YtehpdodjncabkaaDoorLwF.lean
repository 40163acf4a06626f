/- ldif.All: every text that is not too long. -/
import Derived.Test.YtehpdodjncabkaaDoorLdZ
import Derived.Test.YtehpdodjncabkaaDoorPlainAll
import Derived.Deep.AppendLies
namespace Go.Proofs.YtehpdodjncabkaaDoor
open Go.RowKit Go.Lib

theorem Tryd.infoChg : (Tryd.prog.info? 25).map (fun i => (i.zero, i.size, i.bytes)) = some (some (.agg #[.string ⟨#[]⟩, .string ⟨#[]⟩, .string ⟨#[]⟩, .int .i64 0, .slice none 0 0, .slice none 0 0, .string ⟨#[]⟩, .string ⟨#[]⟩, .bool false, .bool false]), 10, 144) := by kernel_rfl
def flatC : List Chg → List (Value × Value) → List Value
  | c :: cs, p :: ps => (chgA c p.1 p.2).toList ++ flatC cs ps
  | _, _ => []
theorem chgA_len (c : Chg) (u v : Value) : (chgA c u v).toList.length = 10 := rfl
theorem flatC_length : ∀ (cs : List Chg) (us : List (Value × Value)), us.length = cs.length → (flatC cs us).length = cs.length * 10
  | [], _, _ => by simp [flatC]
  | m :: ms, [], h => by simp at h
  | m :: ms, u :: us, h => by
    have := flatC_length ms us (by simpa using h)
    simp only [flatC, List.length_cons, List.length_append, chgA_len, this]
    omega
theorem flatC_snoc : ∀ (cs : List Chg) (us : List (Value × Value)) (c : Chg) (u : Value × Value), us.length = cs.length → flatC (cs ++ [c]) (us ++ [u]) = flatC cs us ++ (chgA c u.1 u.2).toList
  | [], [], c, u, _ => by simp [flatC]
  | [], _ :: _, _, _, h => by simp at h
  | _ :: _, [], _, _, h => by simp at h
  | a :: cs, b :: us, c, u, h => by
    have := flatC_snoc cs us c u (by simpa using h)
    simp only [List.cons_append, flatC, this, List.append_assoc]
theorem flatC_get : ∀ (cs : List Chg) (us : List (Value × Value)) (j : Nat) (c : Chg) (u : Value × Value) (i : Nat), cs[j]? = some c → us[j]? = some u → i < 10 → (flatC cs us)[j * 10 + i]? = (chgA c u.1 u.2)[i]?
  | [], _, _, _, _, _, h, _, _ => by simp at h
  | _ :: _, [], _, _, _, _, _, h, _ => by simp at h
  | a :: cs, b :: us, 0, c, u, i, h, k, hi => by
    simp only [List.getElem?_cons_zero, Option.some.injEq] at h k
    subst h k
    rw [flatC, List.getElem?_append_left (by rw [chgA_len]; omega)]
    simp
  | a :: cs, b :: us, j + 1, c, u, i, h, k, hi => by
    have := flatC_get cs us j c u i (by simpa using h) (by simpa using k) hi
    rw [flatC, List.getElem?_append_right (by rw [chgA_len]; omega), chgA_len]
    rw [show (j + 1) * 10 + i - 10 = j * 10 + i by omega]
    exact this
def ChgsAt (w : World) (v : Value) (cs : List Chg) : Prop :=
  ∃ (a : Option Addr) (cap : Nat), v = .slice a cs.length cap ∧ cs.length ≤ cap ∧ (cs ≠ [] → ∃ g o, a = some ⟨g, o, none⟩ ∧ ∀ (j : Nat) (c : Chg), cs[j]? = some c → ∃ vA vM, (∀ (i : Nat) (x : Value), (chgA c vA vM)[i]? = some x → w.cell? ⟨g, o + j * 10 + i, none⟩ = some x) ∧ AttrsAt w vA c.attrs ∧ ModsAt w vM c.mods)
theorem ChgsAt.below {w w' : World} {v : Value} {cs : List Chg} (h : ChgsAt w v cs) (hb : Below w.heap.size w w') : ChgsAt w' v cs := by
  obtain ⟨a, cap, hv, hc, hr⟩ := h
  refine ⟨a, cap, hv, hc, fun h0 => ?_⟩
  obtain ⟨g, o, ha, hr⟩ := hr h0
  refine ⟨g, o, ha, fun j c hj => ?_⟩
  obtain ⟨vA, vM, h1, h2, h3⟩ := hr j c hj
  exact ⟨vA, vM, fun i x hi => (hb.cell (lt_of_cell (h1 i x hi))).trans (h1 i x hi), h2.below hb, h3.below hb⟩
/-- Where the lists of a record lie: in a part of the memory of their own. -/
def RecS (N : Nat) (wr : World) (v : Value) (c : Chg) (p : Value × Value) : Prop :=
  ∃ lo hi, N ≤ lo ∧ hi ≤ wr.heap.size ∧ (∀ g, v.ownBlock = some g → g < lo ∨ hi ≤ g) ∧ ∀ W : World, (∀ k, lo ≤ k → k < hi → W.heap[k]? = wr.heap[k]?) → AttrsAt W p.1 c.attrs ∧ ModsAt W p.2 c.mods
theorem chgs_own {N : Nat} {w : World} {v : Value} {cs : List Chg} {us : List (Value × Value)} (h : w.ownsRow N 25 10 v cs.length (flatC cs us)) (hl : us.length = cs.length)
    (hs : ∀ (j : Nat) (c : Chg) (p : Value × Value), cs[j]? = some c → us[j]? = some p → RecS N w v c p) : ChgsAt w v cs := by
  rcases id h.2 with ⟨rfl, h0⟩ | ⟨g, cap, cur, rfl, hb, hg, hc, _, _, ht⟩
  · have : cs = [] := List.length_eq_zero_iff.1 h0
    subst this
    exact ⟨none, 0, rfl, by simp, fun h => absurd rfl h⟩
  · refine ⟨some ⟨g, 0, none⟩, cap, rfl, hc, fun _ => ⟨g, 0, rfl, fun j c hj => ?_⟩⟩
    obtain ⟨u, hu⟩ : ∃ u, us[j]? = some u := ⟨us[j]'(by rw [hl]; exact (List.getElem?_eq_some_iff.1 hj).1), List.getElem?_eq_getElem _⟩
    obtain ⟨lo, hi, _, _, _, hrec⟩ := hs j c u hj hu
    obtain ⟨r1, r2⟩ := hrec w (fun _ _ _ => rfl)
    refine ⟨u.1, u.2, fun i x hx => ?_, r1, r2⟩
    have hi10 : i < 10 := (Array.getElem?_eq_some_iff.1 hx).1
    have g1 := flatC_get cs us j c u i hj hu hi10
    rw [hx] at g1
    rw [Nat.zero_add]
    exact (own_cell h g1).1
def AllRel (w : World) (text : List UInt8) (t v : Value) (wr : World) : Prop :=
  ∃ (rest : List UInt8) (done : List Chg) (us : List (Value × Value)), t = .string ⟨rest.toArray⟩ ∧ done.length + rest.length ≤ text.length ∧ allF text.length text = (allF rest.length rest).map (done ++ ·) ∧ Below w.heap.size w wr ∧
    wr.ownsRow w.heap.size 25 10 v done.length (flatC done us) ∧ us.length = done.length ∧ ∀ (j : Nat) (c : Chg) (p : Value × Value), done[j]? = some c → us[j]? = some p → RecS w.heap.size wr v c p
def AllPost (text : List UInt8) (w : World) (e : Ending) (w' : World) : Prop :=
  Below w.heap.size w w' ∧ match allC text with
  | some cs => ∃ v, e = .returned (.tuple #[v, .int .i64 0]) ∧ ChgsAt w' v cs
  | none => e = .returned (.tuple #[.slice none 0 0, .int .i64 (if 65536 < text.length then 2 else 110)])
theorem index_le2 : ∀ {s : List UInt8} {n : Nat}, index s sep2 = (n : Int) → n + 2 ≤ s.length
  | [], n, h => by
    unfold index at h
    simp [sep2] at h
  | b :: l, n, h => by
    unfold index at h
    split at h
    · rename_i hp
      have := (List.isPrefixOf_iff_prefix.1 hp).length_le
      simp only [sep2, List.length_cons, List.length_nil] at this ⊢
      omega
    · split at h
      · omega
      · rename_i hn
        have h0 := index_ge l sep2
        have h1 : index l sep2 ≠ -1 := by simpa using hn
        have h2 : index l sep2 = ((n - 1 : Nat) : Int) := by omega
        have := index_le2 h2
        simp only [List.length_cons]
        omega
set_option maxRecDepth 100000 in
set_option maxHeartbeats 4000000 in
theorem All_short (text : List UInt8) (w : World) (hl : text.length ≤ 65536) (hE : Env w) :
    Calls Tryd.prog 15 #[.string ⟨text.toArray⟩] w (AllPost text w) := by
  obtain ⟨PR, hPR⟩ : ∃ P, AllPost text w = P := ⟨_, rfl⟩
  rw [hPR]
  have HPR := Lib.hid hPR
  clear hPR
  have g1 : decide ((65536 : Int) < (text.length : Int)) = false := decide_eq_false (by omega)
  obtain ⟨i0, hi0, hz0, hz1, hz2⟩ := info_parts Tryd.infoChg
  go_enter Tryd.func15, Tryd.ntmps15
  go_wp2_with fail
  go_loopw [0, 4] (fun t v wr => AllRel w text t v wr) (fun t _ _ => (match t with | .string s => s.size | _ => 0))
  case atStart => exact ⟨text, [], [], rfl, by simp, by simp, Below.refl _ _, World.ownsRow_nil _ _ _ _, rfl, fun j c p h => by simp at h⟩
  case round =>
    obtain ⟨rest, done, us, rfl, hlen, hall, hbe, hown, hul, hrec⟩ := hrel
    have HALL := Lib.hid hall
    clear hall
    by_cases hr0 : rest = []
    · subst hr0
      go_wp2_with fail
      show PR (.returned (.tuple #[u4, .int .i64 0])) wr
      rw [← HPR.out]
      unfold AllPost allC
      rw [if_neg (by omega), HALL.out]
      refine ⟨hbe, ?_⟩
      simp only [List.length_nil, allF, if_true, Option.map_some, List.append_nil]
      exact ⟨_, rfl, chgs_own hown hul hrec⟩
    · have hne : rest.isEmpty = false := by cases rest <;> simp_all
      obtain ⟨mx, hmx⟩ := (hE.below hbe).maxl
      have HCS := Lib.hid (allF_cases hr0)
      have hge := index_ge rest sep2
      obtain ⟨at1, hat⟩ : ∃ z, index rest sep2 = z := ⟨_, rfl⟩
      rw [hat] at hge
      have ki : Calls Tryd.prog 39 #[.string ⟨rest.toArray⟩, .string ⟨#[10, 10]⟩] wr fun e w' => e = .returned (.int .i64 at1) ∧ w' = wr := by
        rw [← hat]
        exact Tryd.strings_Index ⟨rest.toArray⟩ ⟨#[10, 10]⟩ mx wr (by simp [ByteArray.size]; omega) hmx
      have HAT := Lib.hid hat
      clear hat
      go_wp2_with fail
      refine Calls.mono (show Calls _ _ _ _ _ from ki) ?_
      rintro e w1 ⟨rfl, rfl⟩
      clear ki
      by_cases hneg : at1 < 0
      · have g2 : decide (at1 < 0) = true := decide_eq_true hneg
        go_wp2_with fail
        show PR (.returned (.tuple #[.slice none 0 0, .int .i64 110])) w1
        rw [← HPR.out]
        unfold AllPost allC
        rw [if_neg (by omega), if_neg (by omega), HALL.out, HCS.out.1 (by rw [HAT.out]; exact hneg)]
        exact ⟨hbe, rfl⟩
      · have g2 : decide (at1 < 0) = false := decide_eq_false hneg
        obtain ⟨n, hn⟩ : ∃ n : Nat, at1 = (n : Int) := ⟨at1.toNat, by omega⟩
        subst hn
        have hn2 := index_le2 HAT.out
        have hex : (⟨rest.toArray⟩ : ByteArray).extract 0 (n + 2) = ⟨(rest.take (n + 2)).toArray⟩ := by
          rw [Lib.extract_mk]
          simp
        have hex2 : (⟨rest.toArray⟩ : ByteArray).extract (n + 2) rest.length = ⟨(rest.drop (n + 2)).toArray⟩ := by
          rw [Lib.extract_mk]
          rw [List.take_of_length_le (by rw [List.length_drop]; omega)]
        have k5 := Parse_any (rest.take (n + 2)) w1 (by simp; omega) (hE.below hbe)
        unfold ParsePost at k5
        have htl : (rest.take (n + 2)).length ≤ 65536 := by simp; omega
        cases hp : parseC (rest.take (n + 2)) with
        | none =>
          rw [hp, if_neg (by omega)] at k5
          unfold chgA zeroC at k5
          simp only at k5
          have hnone := (HCS.out.2 n HAT.out).1 hp
          have HN := Lib.hid hnone
          clear hnone hp
          go_wp2_with fail
          rw [hex]
          refine Calls.mono (show Calls _ _ _ _ _ from k5) ?_
          rintro e w7 ⟨hb7, rfl⟩
          go_wp2_with fail
          show PR (.returned (.tuple #[.slice none 0 0, .int .i64 110])) _
          rw [← HPR.out]
          unfold AllPost allC
          rw [if_neg (by omega), if_neg (by omega), HALL.out, HN.out]
          exact ⟨(below_ext hbe hb7).alloc (by have := hb7.size; have := hbe.size; omega) _, rfl⟩
        | some c =>
          rw [hp] at k5
          simp only at k5
          have hsome := (HCS.out.2 n HAT.out).2 c hp
          have HSO := Lib.hid hsome
          have HREC := Lib.hid hrec
          clear hsome hp hrec
          go_wp2_with fail
          rw [hex]
          refine Calls.mono (show Calls _ _ _ _ _ from k5) ?_
          rintro e w7 ⟨hb7, xA, xM, rfl, hx⟩
          obtain ⟨hxA, hxM⟩ := hx w7 (fun _ _ _ => rfl)
          have HX := Lib.hid hx
          obtain ⟨aX, cX, rfl, _⟩ := hxA
          obtain ⟨aY, cY, rfl, _⟩ := hxM
          have hown7 := own_below hown hb7
          have hs7 := hb7.size
          have hsb := hbe.size
          have hlt7 := hown.lt
          have hbe2 : Below w.heap.size w ((w7.alloc (.cells (chgA c (.slice aX c.attrs.length cX) (.slice aY c.mods.length cY)) 25)).alloc (.cells (chgA c (.slice aX c.attrs.length cX) (.slice aY c.mods.length cY)) 25)) := ((below_ext hbe hb7).alloc (by omega) _).alloc (by simp; omega) _
          have HBE2 := Lib.hid hbe2
          clear hbe2
          unfold chgA at HBE2 ⊢
          go_wp2_with (at_builtin; refine wpList_append_lies _ rfl (.tmp 28) (.tmp 30) 43 rfl w.heap.size 25 i0 (.agg #[.string ⟨#[]⟩, .string ⟨#[]⟩, .string ⟨#[]⟩, .int .i64 0, .slice none 0 0, .slice none 0 0, .string ⟨#[]⟩, .string ⟨#[]⟩, .bool false, .bool false]) 10 144 Tryd.underlying43 hi0 hz0 hz1 hz2 rfl (by omega) u4 done.length (flatC done us) rfl ((hown7.alloc _).alloc _) ⟨w7.heap.size + 1, 0, none⟩ 1 1 [.string ⟨c.time.toArray⟩, .string ⟨c.who.toArray⟩, .string ⟨c.dn.toArray⟩, .int .i64 c.kind, .slice aX c.attrs.length cX, .slice aY c.mods.length cY, .string ⟨c.newRdn.toArray⟩, .string ⟨c.newSup.toArray⟩, .bool c.delOld, .bool c.hasSup] rfl rfl (World.news_of_block (alloc_at _ _ _ (by simp))) ?d2 (by omega) ?d3 ?d4 ?d5 (w7.heap.size + 2) (by simp) ?_)
          case d2 => intro x hx; simp at hx; rcases hx with rfl | rfl | rfl | rfl | rfl | rfl | rfl | rfl | rfl | rfl <;> rfl
          case d3 => unfold maxLen; omega
          case d4 => omega
          case d5 => simp; omega
          intro g5 cap5 w8 ho8 hg8 hat8 hlt8
          have hb8 : Below w.heap.size w w8 := HBE2.out.grown hg8 (by simp; omega) (fun k hk => (hlt7 k hk).1)
          have hdl : (rest.drop (n + 2)).length + (n + 2) = rest.length := by rw [List.length_drop]; omega
          have hrec8 : ∀ (j : Nat) (c' : Chg) (p : Value × Value), (done ++ [c])[j]? = some c' → (us ++ [(.slice aX c.attrs.length cX, .slice aY c.mods.length cY)])[j]? = some p → RecS w.heap.size w8 (.slice (some ⟨g5, 0, none⟩) (done.length + 1) cap5) c' p := by
            have hkeep : ∀ j, j < w7.heap.size → some j ≠ u4.ownBlock → w8.heap[j]? = w7.heap[j]? := fun j hj hne => (hg8.block j (by simp; omega) hne).trans ((Lib.alloc_old _ _ _ (by simp; omega)).trans (Lib.alloc_old _ _ _ hj))
            have hs8 : w7.heap.size ≤ w8.heap.size := by have := hg8.size; simp at this; omega
            intro j c' p h1 h2
            rcases Nat.lt_or_ge j done.length with hj | hj
            · rw [List.getElem?_append_left hj] at h1
              rw [List.getElem?_append_left (by omega)] at h2
              obtain ⟨lo, hi, q1, q2, q3, q4⟩ := HREC.out j c' p h1 h2
              refine ⟨lo, hi, q1, by omega, fun g hg => ?_, fun W hW => q4 W (fun k hk1 hk2 => ?_)⟩
              · simp only [Value.ownBlock, Option.some.injEq] at hg
                subst hg
                rcases hat8 with h | h
                · exact q3 _ h
                · right; omega
              · rw [hW k hk1 hk2, hkeep k (by omega) (fun e => by rcases q3 k e.symm with h | h <;> omega)]
                exact hb7.block k (by omega)
            · obtain rfl : j = done.length := by
                have := (List.getElem?_eq_some_iff.1 h1).1
                simp at this
                omega
              rw [List.getElem?_append_right (Nat.le_refl _), Nat.sub_self] at h1
              rw [List.getElem?_append_right (by omega), show done.length - us.length = 0 by omega] at h2
              simp only [List.getElem?_cons_zero, Option.some.injEq] at h1 h2
              subst h1 h2
              refine ⟨w1.heap.size, w7.heap.size, by omega, hs8, fun g hg => ?_, fun W hW => HX.out W (fun k hk1 hk2 => ?_)⟩
              · simp only [Value.ownBlock, Option.some.injEq] at hg
                subst hg
                rcases hat8 with h | h
                · left; exact (hown.lt _ h).2
                · right; omega
              · rw [hW k hk1 hk2]
                exact hkeep k hk2 (fun e => by have := (hown.lt k e.symm).2; omega)
          have ho8' : w8.ownsRow w.heap.size 25 10 (.slice (some ⟨g5, 0, none⟩) (done.length + 1) cap5) (done ++ [c]).length (flatC (done ++ [c]) (us ++ [(.slice aX c.attrs.length cX, .slice aY c.mods.length cY)])) := by
            rw [flatC_snoc _ _ _ _ hul, List.length_append]
            exact ho8
          have HR8 := Lib.hid hrec8
          have HO8 := Lib.hid ho8'
          clear hrec8 ho8 ho8' hg8
          go_wp2_with fail
          refine ⟨⟨rest.drop (n + 2), done ++ [c], us ++ [(.slice aX c.attrs.length cX, .slice aY c.mods.length cY)], by rw [← hex2], by rw [List.length_append, List.length_singleton]; omega, ?_, hb8, HO8.out, by simp [hul], HR8.out⟩, ?_⟩
          · rw [HALL.out, HSO.out, Option.map_map]
            congr 1
            funext x
            simp
          · show (ByteArray.extract ⟨rest.toArray⟩ (n + 2) rest.length).size < (⟨rest.toArray⟩ : ByteArray).size
            rw [hex2, Lib.size_mk, Lib.size_mk, List.length_drop]
            omega
end Go.Proofs.YtehpdodjncabkaaDoor
