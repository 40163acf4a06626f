/- RwE, LwG, BgS. -/
import Derived.Test.YtegigcneimjimaaGreatDoorU22
namespace Go.Proofs.YtegigcneimjimaaGreatDoor
open Go.RowKit Go.Lib
set_option maxRecDepth 100000
set_option maxHeartbeats 16000000
theorem CO.nil (B : Nat) (w : World) : CO B w (.slice none 0 0) [] := ⟨[], World.ownsRow_nil _ _ _ _, rfl, fun j x u a => (by cases a)⟩
theorem same_rec {w w' : World} {B size n : Nat} {l : Value} {xs : List Value} (hl : w.ownsRow B 47 size l n xs) (hg : w.grownBy w' l.ownBlock) : ∀ k t, Ty w k t → recT t → w'.heap[k]? = w.heap[k]? :=
  fun k t ht hr => hg.block k (by obtain ⟨_, _, ht⟩ := ht; exact (Array.getElem?_eq_some_iff.1 ht).1) (fun e => by
    have := (own_ty hl e.symm).eq ht
    subst this
    rcases hr with hr | hr | hr <;> exact absurd hr (by decide))
theorem AO.grownC {B B' size n : Nat} {w w' : World} {v l : Value} {xs : List Value} {al : List At} (h : AO B w v al) (hl : w.ownsRow B' 47 size l n xs) (hg : w.grownBy w' l.ownBlock) : AO B w' v al := by
  obtain ⟨us, h1, h2, h3⟩ := h
  exact ⟨us, own_ty_kept h1 (fun k ht => same_rec hl hg k _ ht (.inr (.inl rfl))), h2, fun j x u a b => own_ty_kept (h3 j x u a b) (fun k ht => same_rec hl hg k _ ht (.inl rfl))⟩
theorem MO.grownC {B B' size n : Nat} {w w' : World} {v l : Value} {xs : List Value} {al : List Md} (h : MO B w v al) (hl : w.ownsRow B' 47 size l n xs) (hg : w.grownBy w' l.ownBlock) : MO B w' v al := by
  obtain ⟨us, h1, h2, h3⟩ := h
  exact ⟨us, own_ty_kept h1 (fun k ht => same_rec hl hg k _ ht (.inr (.inr rfl))), h2, fun j x u a b => own_ty_kept (h3 j x u a b) (fun k ht => same_rec hl hg k _ ht (.inl rfl))⟩
def RAP (text : List UInt8) (w : World) (e : Ending) (w' : World) : Prop :=
  Below w.heap.size w w' ∧ ∃ v, e = .returned (.tuple #[v, .int .i64 (aC text).2]) ∧ CO w.heap.size w' v (aC text).1
theorem rpp_one {text : List UInt8} {w w' : World} {e : Ending} (h : RPP text w e w') : Below w.heap.size w w' ∧ ∃ vA vM, e = .returned (.tuple #[.agg (chgA (pC text).1 vA vM), .int .i64 (pC text).2]) ∧ AO w.heap.size w' vA (pC text).1.attrs ∧ MO w.heap.size w' vM (pC text).1.mods := by
  unfold RPP at h
  obtain ⟨hb, h⟩ := h
  refine ⟨hb, ?_⟩
  unfold pC
  cases hp : parseC text with
  | some c => rw [hp] at h; exact h
  | none => rw [hp] at h; exact ⟨_, _, h, AO.nil _ _, MO.nil _ _⟩
theorem post_one {text : List UInt8} {w w' : World} {e : Ending} (h : ParsePost text w e w') : Below w.heap.size w w' ∧ ∃ vA vM, e = .returned (.tuple #[.agg (chgA (pC text).1 vA vM), .int .i64 (pC text).2]) ∧ RecO w.heap.size w' vA vM (pC text).1 := by
  unfold ParsePost at h
  obtain ⟨hb, h⟩ := h
  refine ⟨hb, ?_⟩
  unfold pC
  cases hp : parseC text with
  | some c => rw [hp] at h; exact h
  | none => rw [hp] at h; exact ⟨_, _, h, ⟨[], World.ownsRow_nil _ _ _ _, rfl, fun j x u a => (by cases a), Dist.nil⟩, ⟨[], World.ownsRow_nil _ _ _ _, rfl, fun j x u a => (by cases a), Dist.nil⟩, .inl rfl⟩
theorem post_all {text : List UInt8} {w w' : World} {e : Ending} (h : AllPost text w e w') : Below w.heap.size w w' ∧ ∃ v us hh, e = .returned (.tuple #[v, .int .i64 (aC text).2]) ∧ ChgsO w.heap.size w' v (aC text).1 us hh := by
  unfold AllPost at h
  obtain ⟨hb, h⟩ := h
  refine ⟨hb, ?_⟩
  unfold aC
  cases hp : allC text with
  | some c => rw [hp] at h; exact h
  | none => rw [hp] at h; exact ⟨_, _, _, h, ChgsO.nil _ _ hb.size⟩
theorem All_any (text : List UInt8) (w : World) (hl : text.length ≤ 1000000000000) (hE : Env w) :
    Calls Tryz.prog 9 #[.string ⟨text.toArray⟩] w (AllPost text w) := by
  by_cases h6 : 65536 < text.length
  · have g1 : decide ((65536 : Int) < (text.length : Int)) = true := decide_eq_true (by omega)
    obtain ⟨PR, hPR⟩ : ∃ P, AllPost text w = P := ⟨_, rfl⟩
    rw [hPR]
    have HPR := Lib.hid hPR
    clear hPR hE
    go_enter Tryz.func9, Tryz.ntmps9
    go_wp2_with fail
    show PR (.returned (.tuple #[.slice none 0 0, .int .i64 2])) w
    rw [← HPR.out]
    unfold AllPost allC
    rw [if_pos h6, if_pos h6]
    exact ⟨Below.refl _ _, rfl⟩
  · exact All_short text w (by omega) hE
def RAR (w : World) (text : List UInt8) (t v : Value) (wr : World) : Prop :=
  ∃ (rest : List UInt8) (done : List Chg) (us : List (Value × Value)), t = .string ⟨rest.toArray⟩ ∧ done.length + rest.length ≤ text.length ∧ allF text.length text = (allF rest.length rest).map (done ++ ·) ∧ Below w.heap.size w wr ∧
    wr.ownsRow w.heap.size 47 10 v done.length (flatC done us) ∧ us.length = done.length ∧ ∀ (j : Nat) (c : Chg) (q : Value × Value), done[j]? = some c → us[j]? = some q → AO w.heap.size wr q.1 c.attrs ∧ MO w.heap.size wr q.2 c.mods
theorem RAll_short (text : List UInt8) (w : World) (hl : text.length ≤ 65536) :
    Calls Tryz.prog 10 #[.string ⟨text.toArray⟩] w (RAP text w) := by
  obtain ⟨PR, hPR⟩ : ∃ P, RAP text w = P := ⟨_, rfl⟩
  rw [hPR]
  have HPR := Lib.hid hPR
  clear hPR
  have g1 : decide ((65536 : Int) < (text.length : Int)) = false := decide_eq_false (by omega)
  obtain ⟨i0, hi0, hz0, hz1, hz2⟩ := info_parts Tryz.infoChg
  have hnone : ∀ w', Below w.heap.size w w' → allF text.length text = none → PR (.returned (.tuple #[.slice none 0 0, .int .i64 110])) w' := by
    intro w' hb ha
    rw [← HPR.out]
    unfold RAP aC allC
    rw [if_neg (by omega), ha, if_neg (by omega)]
    exact ⟨hb, _, rfl, CO.nil _ _⟩
  have HN := Lib.hid hnone
  clear hnone
  go_enter Tryz.func10, Tryz.ntmps10
  go_wp2_with fail
  go_loopw [0, 4] (fun t v wr => RAR w text t v wr) (fun t _ _ => (match t with | .string s => s.size | _ => 0))
  case atStart => exact ⟨text, [], [], rfl, by simp, by simp, Below.refl _ _, World.ownsRow_nil _ _ _ _, rfl, fun j c q h => (by cases h)⟩
  case round =>
    obtain ⟨rest, done, us, rfl, hlen, hall, hbe, hown, hul, hrec⟩ := hrel
    have HALL := Lib.hid hall
    have HREC := Lib.hid hrec
    clear hall hrec
    by_cases hr0 : rest = []
    · subst hr0
      go_wp2_with fail
      show PR (.returned (.tuple #[u4, .int .i64 0])) wr
      rw [← HPR.out]
      unfold RAP aC allC
      rw [if_neg (by omega), HALL.out]
      refine ⟨hbe, ?_⟩
      simp only [List.length_nil, allF, if_true, Option.map_some, List.append_nil]
      exact ⟨_, rfl, us, hown, hul, HREC.out⟩
    · have hne : rest.isEmpty = false := by cases rest <;> simp_all
      have hcs := one_cases hr0
      obtain ⟨L, z, hor⟩ : ∃ L z, oneR rest = (L, z) := ⟨_, _, rfl⟩
      have k1 := one_any rest wr (by omega)
      rw [hor] at hcs k1
      simp only at hcs k1
      obtain ⟨hc1, hc2⟩ := hcs
      clear hor
      have HC1 := Lib.hid hc1
      clear hc1
      rcases hc2 with rfl | ⟨n, rfl, hn0, hnl, hp1, hp2⟩
      · go_wp2_with fail
        refine Calls.mono (show Calls _ _ _ _ _ from k1) ?_
        rintro e w1 ⟨⟨u, rfl, _⟩, hb1⟩
        clear k1
        go_wp2_with fail
        show PR (.returned (.tuple #[.slice none 0 0, .int .i64 110])) w1
        exact HN.out _ (below_ext hbe hb1) (by rw [HALL.out, HC1.out (by decide)]; rfl)
      · have g2 : decide ((n : Int) < 0) = false := decide_eq_false (by omega)
        have g3 : (n : Int) ≤ (rest.length : Int) := by omega
        have HP1 := Lib.hid hp1
        have HP2 := Lib.hid hp2
        clear hp1 hp2 HC1
        have hex : (⟨rest.toArray⟩ : ByteArray).extract 0 n = ⟨(rest.take n).toArray⟩ := by
          rw [Lib.extract_mk]
          simp
        have hex2 : (⟨rest.toArray⟩ : ByteArray).extract n rest.length = ⟨(rest.drop n).toArray⟩ := by
          rw [Lib.extract_mk]
          rw [List.take_of_length_le (by rw [List.length_drop]; omega)]
        go_wp2_with fail
        refine Calls.mono (show Calls _ _ _ _ _ from k1) ?_
        rintro e w1 ⟨⟨u, rfl, _⟩, hb1⟩
        clear k1
        have htl : (rest.take n).length ≤ 65536 := by simp; omega
        have k5 := RParse_any (rest.take n) w1 (by omega)
        unfold RPP at k5
        have hbe1 := below_ext hbe hb1
        have hs1 := hb1.size
        have hse := hbe.size
        have hown1 := own_below hown hb1
        cases hp : parseC (rest.take n) with
        | none =>
          rw [hp, if_neg (by omega)] at k5
          unfold chgA zeroC at k5
          simp only at k5
          have HPN := Lib.hid (HP1.out hp)
          clear hp
          go_wp2_with fail
          try rw [hex]
          refine Calls.mono (show Calls _ _ _ _ _ from k5) ?_
          rintro e w7 ⟨hb7, rfl⟩
          go_wp2_with fail
          show PR (.returned (.tuple #[.slice none 0 0, .int .i64 110])) _
          exact HN.out _ (by first | exact (below_ext hbe1 hb7).alloc (by have := hb7.size; omega) _ | exact below_ext hbe1 hb7) (by rw [HALL.out, HPN.out]; rfl)
        | some c =>
          rw [hp] at k5
          simp only at k5
          have HSO := Lib.hid (HP2.out c hp)
          clear hp
          go_wp2_with fail
          try rw [hex]
          refine Calls.mono (show Calls _ _ _ _ _ from k5) ?_
          rintro e w7 ⟨hb7, xA, xM, rfl, hxA, hxM⟩
          have hs7 := hb7.size
          have hown7 := own_below hown1 hb7
          have hlt7 := hown.lt
          have HXA := Lib.hid (hxA.mono (B' := w.heap.size) (by omega))
          have HXM := Lib.hid (hxM.mono (B' := w.heap.size) (by omega))
          obtain ⟨aX, cX, rfl⟩ := hxA.sl
          obtain ⟨aY, cY, rfl⟩ := hxM.sl
          have HBE2 := Lib.hid (below_ext hbe1 hb7)
          clear hxA hxM k5
          unfold chgA
          go_wp2_with (at_builtin; refine wpList_append_lies _ rfl (.tmp 31) (.tmp 33) 51 rfl w.heap.size 47 i0 (.agg #[.string ⟨#[]⟩, .string ⟨#[]⟩, .string ⟨#[]⟩, .int .i64 0, .slice none 0 0, .slice none 0 0, .string ⟨#[]⟩, .string ⟨#[]⟩, .bool false, .bool false]) 10 144 Tryz.underlying51 hi0 hz0 hz1 hz2 rfl (by omega) u4 done.length (flatC done us) rfl ((hown7.alloc _).alloc _) ⟨w7.heap.size + 1, 0, none⟩ 1 1 [.string ⟨c.time.toArray⟩, .string ⟨c.who.toArray⟩, .string ⟨c.dn.toArray⟩, .int .i64 c.kind, .slice aX c.attrs.length cX, .slice aY c.mods.length cY, .string ⟨c.newRdn.toArray⟩, .string ⟨c.newSup.toArray⟩, .bool c.delOld, .bool c.hasSup] rfl rfl (World.news_of_block (alloc_at _ _ _ (by simp))) ?d2 (by omega) ?d3 ?d4 ?d5 (w7.heap.size + 2) (by simp) ?_)
          case d2 => intro x hx; simp at hx; rcases hx with rfl | rfl | rfl | rfl | rfl | rfl | rfl | rfl | rfl | rfl <;> rfl
          case d3 => unfold maxLen; omega
          case d4 => omega
          case d5 => simp; omega
          intro g5 cap5 w8 ho8 hg8 hat8 hlt8
          have hbW : Below w7.heap.size w7 ((w7.alloc (.cells (chgA c (.slice aX c.attrs.length cX) (.slice aY c.mods.length cY)) 47)).alloc (.cells (chgA c (.slice aX c.attrs.length cX) (.slice aY c.mods.length cY)) 47)) := ((Below.refl _ _).alloc (Nat.le_refl _) _).alloc (by simp) _
          have hbe2 := HBE2.out.trans (hbW.mono (by omega))
          have hdl : (rest.drop n).length + n = rest.length := by rw [List.length_drop]; omega
          have hXA8 := (HXA.out.below hbW).grownC ((hown7.alloc _).alloc _) hg8
          have hXM8 := (HXM.out.below hbW).grownC ((hown7.alloc _).alloc _) hg8
          unfold chgA at hbW hbe2
          have hb8 : Below w.heap.size w w8 := hbe2.grown hg8 (by simp; omega) (fun k hk => (hlt7 k hk).1)
          have hrec8 : ∀ (j : Nat) (c' : Chg) (p : Value × Value), (done ++ [c])[j]? = some c' → (us ++ [(.slice aX c.attrs.length cX, .slice aY c.mods.length cY)])[j]? = some p → AO w.heap.size w8 p.1 c'.attrs ∧ MO w.heap.size w8 p.2 c'.mods := by
            intro j c' p h1 h2
            rcases Nat.lt_or_ge j done.length with hj | hj
            · rw [List.getElem?_append_left hj] at h1
              rw [List.getElem?_append_left (by omega)] at h2
              obtain ⟨r1, r2⟩ := HREC.out j c' p h1 h2
              exact ⟨(((r1.below hb1).below hb7).below hbW).grownC ((hown7.alloc _).alloc _) hg8, (((r2.below hb1).below hb7).below hbW).grownC ((hown7.alloc _).alloc _) hg8⟩
            · obtain rfl : j = done.length := by
                have := (List.getElem?_eq_some_iff.1 h1).1
                simp at this
                omega
              rw [List.getElem?_append_right (Nat.le_refl _), Nat.sub_self] at h1
              rw [List.getElem?_append_right (by omega), show done.length - us.length = 0 by omega] at h2
              simp only [List.getElem?_cons_zero, Option.some.injEq] at h1 h2
              subst h1 h2
              exact ⟨hXA8, hXM8⟩
          have HR8 := Lib.hid hrec8
          have ho8' : w8.ownsRow w.heap.size 47 10 (.slice (some ⟨g5, 0, none⟩) (done.length + 1) cap5) (done ++ [c]).length (flatC (done ++ [c]) (us ++ [(.slice aX c.attrs.length cX, .slice aY c.mods.length cY)])) := by
            rw [flatC_snoc _ _ _ _ hul, List.length_append]
            exact ho8
          have HO8 := Lib.hid ho8'
          clear hrec8 ho8 ho8' hg8 hbW hXA8 hXM8 hbe2
          go_wp2_with fail
          refine ⟨⟨rest.drop n, done ++ [c], us ++ [(.slice aX c.attrs.length cX, .slice aY c.mods.length cY)], by first | rfl | rw [← hex2], by rw [List.length_append, List.length_singleton]; omega, ?_, hb8, HO8.out, by simp [hul], HR8.out⟩, ?_⟩
          · rw [HALL.out, HSO.out, Option.map_map]
            congr 1
            funext x
            simp
          · show (⟨(rest.drop n).toArray⟩ : ByteArray).size < (⟨rest.toArray⟩ : ByteArray).size
            rw [Lib.size_mk, Lib.size_mk, List.length_drop]
            omega
theorem RAll_any (text : List UInt8) (w : World) (hl : text.length ≤ 1000000000000) :
    Calls Tryz.prog 10 #[.string ⟨text.toArray⟩] w (RAP text w) := by
  by_cases h6 : 65536 < text.length
  · have g1 : decide ((65536 : Int) < (text.length : Int)) = true := decide_eq_true (by omega)
    obtain ⟨PR, hPR⟩ : ∃ P, RAP text w = P := ⟨_, rfl⟩
    rw [hPR]
    have HPR := Lib.hid hPR
    clear hPR
    go_enter Tryz.func10, Tryz.ntmps10
    go_wp2_with fail
    show PR (.returned (.tuple #[.slice none 0 0, .int .i64 2])) w
    rw [← HPR.out]
    unfold RAP aC allC
    rw [if_pos h6, if_pos h6]
    exact ⟨Below.refl _ _, _, rfl, CO.nil _ _⟩
  · exact RAll_short text w (by omega)
def sameL : List Chg → List Chg → Bool
  | [], [] => true
  | a :: r, b :: q => sameC a b && sameL r q
  | _, _ => false
theorem sameL_self : ∀ l : List Chg, sameL l l = true
  | [] => rfl
  | a :: l => by rw [sameL, sameL_self l, (sameC_iff a a).2 rfl]; rfl
theorem sameL_len : ∀ r q : List Chg, sameL r q = true → r.length = q.length
  | [], [], _ => rfl
  | [], _ :: _, h => by cases h
  | _ :: _, [], h => by cases h
  | a :: r, b :: q, h => by
    simp only [sameL, Bool.and_eq_true] at h
    simp [sameL_len r q h.2]
theorem ChgsAt.at {w : World} {v : Value} {cs : List Chg} (h : ChgsAt w v cs) {k : Nat} {x : Chg} (hx : cs[k]? = some x) : ∃ g o cap vA vM, v = .slice (some ⟨g, o, none⟩) cs.length cap ∧ cs.length ≤ cap ∧
    (w.cell? ⟨g, o + k * 10, none⟩ = some (.string ⟨x.time.toArray⟩) ∧ w.cell? ⟨g, o + k * 10 + 1, none⟩ = some (.string ⟨x.who.toArray⟩) ∧ w.cell? ⟨g, o + k * 10 + 2, none⟩ = some (.string ⟨x.dn.toArray⟩) ∧ w.cell? ⟨g, o + k * 10 + 3, none⟩ = some (.int .i64 x.kind) ∧ w.cell? ⟨g, o + k * 10 + 4, none⟩ = some vA ∧ w.cell? ⟨g, o + k * 10 + 5, none⟩ = some vM ∧ w.cell? ⟨g, o + k * 10 + 6, none⟩ = some (.string ⟨x.newRdn.toArray⟩) ∧ w.cell? ⟨g, o + k * 10 + 7, none⟩ = some (.string ⟨x.newSup.toArray⟩) ∧ w.cell? ⟨g, o + k * 10 + 8, none⟩ = some (.bool x.delOld) ∧ w.cell? ⟨g, o + k * 10 + 9, none⟩ = some (.bool x.hasSup)) ∧
    AttrsAt w vA x.attrs ∧ ModsAt w vM x.mods := by
  obtain ⟨a, cap, hv, hc, hr⟩ := h
  have h0 : cs ≠ [] := by rintro rfl; simp at hx
  obtain ⟨g, o, ha, hr2⟩ := hr h0
  subst ha
  obtain ⟨vA, vM, h1, h2, h3⟩ := hr2 k x hx
  exact ⟨g, o, cap, vA, vM, hv, hc, ⟨h1 0 _ rfl, h1 1 _ rfl, h1 2 _ rfl, h1 3 _ rfl, h1 4 _ rfl, h1 5 _ rfl, h1 6 _ rfl, h1 7 _ rfl, h1 8 _ rfl, h1 9 _ rfl⟩, h2, h3⟩
theorem SameChanges_any (v u : Value) (r q : List Chg) (w : World) (h1 : ChgsAt w v r) (h2 : ChgsAt w u q) (hl : r.length ≤ 140737488355328) (_hl2 : q.length ≤ 140737488355328) (hr : ∀ x ∈ r, LenC x) (hq : ∀ x ∈ q, LenC x) :
    Calls Tryz.prog 12 #[v, u] w fun e w' => e = .returned (.bool (sameL r q)) ∧ Below w.heap.size w w' := by
  have H1 := Lib.hid h1
  have H2 := Lib.hid h2
  have H3 := Lib.hid hr
  have H4 := Lib.hid hq
  clear hr hq
  obtain ⟨a1, c1, rfl, hc1, hx1⟩ := h1
  obtain ⟨a2, c2, rfl, hc2, hx2⟩ := h2
  clear hx1 hx2
  by_cases hlen : r.length = q.length
  · have hq : ((r.length : Int) == (q.length : Int)) = true := by rw [hlen]; simp
    have hqn : ((r.length : Int) != (q.length : Int)) = false := by rw [hlen]; simp
    obtain ⟨ANS, hA⟩ : ∃ ANS, sameL r q = ANS := ⟨_, rfl⟩
    rw [hA]
    have HA := Lib.hid hA
    clear hA
    go_enter Tryz.func12, Tryz.ntmps12
    go_wp2_with fail
    have HLEN := Lib.hid hlen
    clear hlen hq hqn
    go_loopw [5] (fun i wr => ∃ k : Nat, i = .int .i64 (k : Int) ∧ k ≤ r.length ∧ Below w.heap.size w wr ∧ sameL (r.drop k) (q.drop k) = ANS) (fun i _ => r.length - (RowKit.intOf i).toNat)
    case atStart => exact ⟨0, rfl, by omega, Below.refl _ _, HA.out⟩
    case round =>
      obtain ⟨k, rfl, hk, hbr, hans⟩ := hrel
      clear HA
      by_cases hkl : k < r.length
      · have hkl2 : k < q.length := by have := HLEN.out; omega
        obtain ⟨x, hx⟩ : ∃ x, r[k] = x := ⟨_, rfl⟩
        obtain ⟨y, hy⟩ : ∃ y, q[k] = y := ⟨_, rfl⟩
        have hxk : r[k]? = some x := by rw [List.getElem?_eq_getElem hkl, hx]
        have hyk : q[k]? = some y := by rw [List.getElem?_eq_getElem hkl2, hy]
        have hxl := H3.out x (List.mem_of_getElem? hxk)
        have hyl := H4.out y (List.mem_of_getElem? hyk)
        rw [List.drop_eq_getElem_cons hkl, hx, List.drop_eq_getElem_cons hkl2, hy] at hans
        obtain ⟨g, o, cp, vA, vM, e3, _, ⟨p0, p1, p2, p3, p4, p5, p6, p7, p8, p9⟩, hAx, hMx⟩ := (H1.out.below hbr).at hxk
        obtain ⟨g', o', cp', uA, uM, e4, _, ⟨r0, r1, r2, r3, r4, r5, r6, r7, r8, r9⟩, hAy, hMy⟩ := (H2.out.below hbr).at hyk
        cases e3
        cases e4
        clear hxk hyk hx hy
        have i1 : (k : Int) < (r.length : Int) := by omega
        have i2 : (k : Int) < (q.length : Int) := by omega
        have i3 : decide ((k : Int) < (r.length : Int)) = true := decide_eq_true i1
        have ks := fun n => Same_any x y vA vM uA uM (wr.drewN n) (hAx.drewN n) (hMx.drewN n) (hAy.drewN n) (hMy.drewN n) hxl hyl
        unfold chgA at ks
        by_cases hxy : x = y
        · have hsc : sameC x y = true := (sameC_iff _ _).2 hxy
          rw [hsc] at ks
          have hans2 : sameL (r.drop (k + 1)) (q.drop (k + 1)) = ANS := by rw [← hans, sameL, hsc, Bool.true_and]
          have HS := Lib.hid hans2
          have HXY := Lib.hid hxy
          clear hans hans2 hxy hsc
          go_wp2_with fail
          go_region_with (go_at_call 11; refine Calls.mono (show Calls _ _ _ _ _ from ks _) ?_; rintro e w3 ⟨rfl, hb3⟩)
          all_goals
            go_wp2_with fail
            exact ⟨⟨k + 1, by go_num, by omega, below_ext (below_drw hbr _) hb3, HS.out⟩, by simp [RowKit.intOf]; omega⟩
        · have hsc : sameC x y = false := by
            cases hs : sameC x y
            · rfl
            · exact absurd ((sameC_iff _ _).1 hs) hxy
          have e : ANS = false := by rw [← hans, sameL, hsc, Bool.false_and]
          subst e
          rw [hsc] at ks
          have HXY := Lib.hid hxy
          clear hans hxy hsc
          go_wp2_with fail
          go_region_with (go_at_call 11; refine Calls.mono (show Calls _ _ _ _ _ from ks _) ?_; rintro e w3 ⟨rfl, hb3⟩)
          all_goals
            go_wp2_with fail
            go_ret
            exact ⟨rfl, below_ext (below_drw hbr _) hb3⟩
      · obtain rfl : k = r.length := by omega
        have e : ANS = true := by rw [← hans, List.drop_of_length_le (Nat.le_refl _), HLEN.out, List.drop_of_length_le (Nat.le_refl _)]; rfl
        subst e
        go_wp2_with fail
        go_ret
        exact ⟨rfl, hbr⟩
  · have hq : ((r.length : Int) == (q.length : Int)) = false := by simpa using (fun e => hlen (by omega))
    have hqn : ((r.length : Int) != (q.length : Int)) = true := by simpa using (fun e => hlen (by omega))
    have e : sameL r q = false := by
      cases hs : sameL r q
      · rfl
      · exact absurd (sameL_len r q hs) hlen
    rw [e]
    go_enter Tryz.func12, Tryz.ntmps12
    go_wp2_with fail
    go_ret
    exact ⟨rfl, Below.refl _ _⟩
theorem bSameTexts_self (v u : Value) (r : List (List UInt8)) (w : World) (h1 : StrsAt w v r) (h2 : StrsAt w u r) (hl : WdT r) :
    Calls Tryz.prog 160 #[v, u] w fun e w' => e = .returned (.bool true) ∧ ∃ m, w' = w.drewN m := by
  have hl' : r.length ≤ 140737488355328 := Nat.le_trans hl (by decide)
  have k := STexts_any v u r r w h1 h2 hl' hl'
  rw [decide_eq_true rfl] at k
  exact k
theorem bSameAttrs_self (v u : Value) (r : List At) (w : World) (h1 : AttrsAt w v r) (h2 : AttrsAt w u r) (hl : WdA r) :
    Calls Tryz.prog 162 #[v, u] w fun e w' => e = .returned (.bool true) ∧ ∃ m, w' = w.drewN m := by
  have H1 := Lib.hid h1
  have H2 := Lib.hid h2
  have H3 := Lib.hid hl.2
  have hl1 : r.length ≤ 1000000 := hl.1
  clear hl
  obtain ⟨a1, c1, rfl, hc1, hx1⟩ := h1
  obtain ⟨a2, c2, rfl, hc2, hx2⟩ := h2
  clear hx1 hx2
  go_enter Tryz.func162, Tryz.ntmps162
  go_wp2_with fail
  go_loopw [5] (fun i wr => ∃ k m : Nat, i = .int .i64 (k : Int) ∧ k ≤ r.length ∧ wr = w.drewN m) (fun i _ => r.length - (RowKit.intOf i).toNat)
  case atStart => exact ⟨0, 0, rfl, by omega, rfl⟩
  case round =>
    obtain ⟨k, m, rfl, hk, rfl⟩ := hrel
    by_cases hkl : k < r.length
    · obtain ⟨x, hx⟩ : ∃ x, r[k] = x := ⟨_, rfl⟩
      have hxk : r[k]? = some x := by rw [List.getElem?_eq_getElem hkl, hx]
      have hr0 : r ≠ [] := by intro e; rw [e] at hkl; simp at hkl
      have hxl := H3.out x (List.mem_of_getElem? hxk)
      obtain ⟨a3, cap3, e3, _, hcell⟩ := H1.out
      obtain ⟨g, o, ha, hcc⟩ := hcell hr0
      obtain ⟨a4, cap4, e4, _, hcell4⟩ := H2.out
      obtain ⟨g', o', ha', hcc'⟩ := hcell4 hr0
      cases e3
      cases e4
      subst ha ha'
      obtain ⟨p1, z1, p3, hz1⟩ := hcc k x hxk
      obtain ⟨r1, z2, r3, hz2⟩ := hcc' k x hxk
      clear hcc hcell hcc' hcell4 hxk hx
      have i1 : (k : Int) < (r.length : Int) := by omega
      have i3 : decide ((k : Int) < (r.length : Int)) = true := decide_eq_true i1
      have ks := fun a => (STexts_any z1 z2 x.2 x.2 (w.drewN (m + a)) (hz1.drewN _) (hz2.drewN _) (by omega) (by omega)).mono (fun e w'' h => (show e = .returned (.bool (decide (x.2 = x.2))) ∧ ∃ n, w'' = w.drewN (m + n) from ⟨h.1, h.2.elim fun n hn => ⟨a + n, by rw [hn, World.drewN_drewN, Nat.add_assoc]⟩⟩))
      rw [decide_eq_true rfl] at ks
      obtain ⟨s1, d1, e5, _, _⟩ := hz1
      obtain ⟨s2, d2, e6, _, _⟩ := hz2
      subst e5 e6
      have b0 : (x.1 == x.1) = true := by simp
      go_wp2
      go_quiet (exact ks _)
      go_wp2
      exact ⟨⟨k + 1, _, by go_num, by omega, rfl⟩, by simp [RowKit.intOf]; omega⟩
    · obtain rfl : k = r.length := by omega
      have i3 : decide (((r.length : Nat) : Int) < (r.length : Int)) = false := decide_eq_false (by omega)
      go_wp2_with fail
      go_ret
      exact ⟨rfl, _, rfl⟩
theorem bSameMods_self (v u : Value) (r : List Md) (w : World) (h1 : ModsAt w v r) (h2 : ModsAt w u r) (hl : WdM r) :
    Calls Tryz.prog 164 #[v, u] w fun e w' => e = .returned (.bool true) ∧ ∃ m, w' = w.drewN m := by
  have H1 := Lib.hid h1
  have H2 := Lib.hid h2
  have H3 := Lib.hid hl.2
  have hl1 : r.length ≤ 1000000 := hl.1
  clear hl
  obtain ⟨a1, c1, rfl, hc1, hx1⟩ := h1
  obtain ⟨a2, c2, rfl, hc2, hx2⟩ := h2
  clear hx1 hx2
  go_enter Tryz.func164, Tryz.ntmps164
  go_wp2_with fail
  go_loopw [5] (fun i wr => ∃ k m : Nat, i = .int .i64 (k : Int) ∧ k ≤ r.length ∧ wr = w.drewN m) (fun i _ => r.length - (RowKit.intOf i).toNat)
  case atStart => exact ⟨0, 0, rfl, by omega, rfl⟩
  case round =>
    obtain ⟨k, m, rfl, hk, rfl⟩ := hrel
    by_cases hkl : k < r.length
    · obtain ⟨x, hx⟩ : ∃ x, r[k] = x := ⟨_, rfl⟩
      have hxk : r[k]? = some x := by rw [List.getElem?_eq_getElem hkl, hx]
      have hr0 : r ≠ [] := by intro e; rw [e] at hkl; simp at hkl
      have hxl := H3.out x (List.mem_of_getElem? hxk)
      obtain ⟨a3, cap3, e3, _, hcell⟩ := H1.out
      obtain ⟨g, o, ha, hcc⟩ := hcell hr0
      obtain ⟨a4, cap4, e4, _, hcell4⟩ := H2.out
      obtain ⟨g', o', ha', hcc'⟩ := hcell4 hr0
      cases e3
      cases e4
      subst ha ha'
      obtain ⟨p1, p2, z1, p3, hz1⟩ := hcc k x hxk
      obtain ⟨r1, r2, z2, r3, hz2⟩ := hcc' k x hxk
      clear hcc hcell hcc' hcell4 hxk hx
      have i1 : (k : Int) < (r.length : Int) := by omega
      have i3 : decide ((k : Int) < (r.length : Int)) = true := decide_eq_true i1
      have ks := fun a => (STexts_any z1 z2 x.2.2 x.2.2 (w.drewN (m + a)) (hz1.drewN _) (hz2.drewN _) (by omega) (by omega)).mono (fun e w'' h => (show e = .returned (.bool (decide (x.2.2 = x.2.2))) ∧ ∃ n, w'' = w.drewN (m + n) from ⟨h.1, h.2.elim fun n hn => ⟨a + n, by rw [hn, World.drewN_drewN, Nat.add_assoc]⟩⟩))
      rw [decide_eq_true rfl] at ks
      obtain ⟨s1, d1, e5, _, _⟩ := hz1
      obtain ⟨s2, d2, e6, _, _⟩ := hz2
      subst e5 e6
      have b0 : (x.1 == x.1) = true := by simp
      have b1 : (x.2.1 == x.2.1) = true := by simp
      go_wp2
      go_quiet (exact ks _)
      go_wp2
      exact ⟨⟨k + 1, _, by go_num, by omega, rfl⟩, by simp [RowKit.intOf]; omega⟩
    · obtain rfl : k = r.length := by omega
      have i3 : decide (((r.length : Nat) : Int) < (r.length : Int)) = false := decide_eq_false (by omega)
      go_wp2_with fail
      go_ret
      exact ⟨rfl, _, rfl⟩
theorem LenC.of {c : Chg} (h : WdA c.attrs ∧ WdM c.mods) : LenC c :=
  ⟨Nat.le_trans h.1.1 (by decide), Nat.le_trans h.2.1 (by decide), fun x hx => Nat.le_trans (h.1.2 x hx) (by decide), fun x hx => Nat.le_trans (h.2.2 x hx) (by decide)⟩
theorem bSameChanges_self (v u : Value) (r : List Chg) (w : World) (h1 : ChgsAt w v r) (h2 : ChgsAt w u r) (hl : WdC r) :
    Calls Tryz.prog 12 #[v, u] w fun e w' => e = .returned (.bool true) ∧ Below w.heap.size w w' := by
  have hl' : r.length ≤ 140737488355328 := Nat.le_trans hl.1 (by decide)
  have k := SameChanges_any v u r r w h1 h2 hl' hl' (fun x hx => LenC.of (hl.2 x hx)) (fun x hx => LenC.of (hl.2 x hx))
  rw [sameL_self] at k
  exact k
theorem bcopyTexts (v : Value) (l : List (List UInt8)) (w : World) (h : StrsAt w v l) (hl : OkT l) :
    Calls Tryz.prog 237 #[v] w fun e w' => (∃ v', e = .returned v' ∧ TO w.heap.size w' v' l) ∧ Below w.heap.size w w' :=
  copyTexts_any v l w h (Nat.le_trans hl (by decide))
theorem bcopyAttrs (v : Value) (l : List At) (w : World) (h : AttrsAt w v l) (hl : OkA l) :
    Calls Tryz.prog 238 #[v] w fun e w' => (∃ v', e = .returned v' ∧ AO w.heap.size w' v' l) ∧ Below w.heap.size w w' :=
  (copyAttrs_any v l w h (Nat.le_trans hl.1 (by decide)) (fun x hx => Nat.le_trans (hl.2 x hx) (by decide))).mono (fun _ _ h => ⟨by obtain ⟨⟨v', us, h1, h2⟩, _⟩ := h; exact ⟨v', h1, us, h2⟩, h.2⟩)
theorem bcopyMods (v : Value) (l : List Md) (w : World) (h : ModsAt w v l) (hl : OkM l) :
    Calls Tryz.prog 239 #[v] w fun e w' => (∃ v', e = .returned v' ∧ MO w.heap.size w' v' l) ∧ Below w.heap.size w w' :=
  (copyMods_any v l w h (Nat.le_trans hl.1 (by decide)) (fun x hx => Nat.le_trans (hl.2 x hx) (by decide))).mono (fun _ _ h => ⟨by obtain ⟨⟨v', us, h1, h2⟩, _⟩ := h; exact ⟨v', h1, us, h2⟩, h.2⟩)
end Go.Proofs.YtegigcneimjimaaGreatDoor
