/- The document's own answers of chapter 3 on texts: Mapped. -/
import Derived.Test.YtlbfmapbpbpipaaDoorRefOneB
import Derived.Test.YtlbfmapbpbpipaaDoorPlainPrep
import Derived.Test.YtlbfmapbpbpipaaDoorLawStands
import Derived.Test.YtlbfmapbpbpipaaDoorLawMaps
namespace Go.Proofs.YtlbfmapbpbpipaaDoor
open Go.RowKit Go.Lib

def iV (k : IntKind) (xs : List Int) : List Value := xs.map (Value.int k)
theorem iV_length (k : IntKind) (xs : List Int) : (iV k xs).length = xs.length := by simp [iV]
theorem ints_own {k : IntKind} {w : World} {base : Nat} {t : TypeId} {v : Value} {xs : List Int} (h : w.ownsRow base t 1 v xs.length (iV k xs)) : IntsAt k w v xs := by
  rcases h.2 with ⟨rfl, hn⟩ | ⟨g, cap, cur, rfl, hb, hg, hnc, hcm, hcs, htake⟩
  · exact ⟨none, 0, by rw [hn], by omega, fun h0 => by omega⟩
  · refine ⟨_, cap, rfl, hnc, fun _ => ⟨g, 0, rfl, fun i x hx => ?_⟩⟩
    have := h.cells (g := g) rfl i (.int k x) (by simp [iV, hx])
    rw [Addr.add_lit] at this
    simpa using this
theorem own_below {w w' : World} {base e size n : Nat} {v : Value} {xs : List Value} (h : w.ownsRow base e size v n xs) (hb : Below w.heap.size w w') : w'.ownsRow base e size v n xs := by
  refine ⟨h.1, ?_⟩
  rcases h.2 with hn | ⟨g, cap, cur, rfl, hbg, hg, rest⟩
  · exact .inl hn
  · exact .inr ⟨g, cap, cur, rfl, hbg, by rw [hb.block g (Array.getElem?_eq_some_iff.1 hg).1]; exact hg, rest⟩

/-- What a call leaves that answers a list of characters, or none. -/
def RunesOk (w : World) (ans : Option (List Int)) (e : Ending) (w' : World) : Prop :=
  Below w.heap.size w w' ∧ match ans with
    | none => e = .returned (.tuple #[.slice none 0 0, .bool false])
    | some ks => ∃ v, e = .returned (.tuple #[v, .bool true]) ∧ IntsAt .i32 w' v ks

theorem Tryd.infoRune : (Tryd.prog.info? 21).map (fun i => (i.zero, i.size, i.bytes)) = some (some (.int .i32 0), 1, 4) := by kernel_rfl

theorem what3 (r : Int) : mapWhat r = 0 ∨ mapWhat r = 1 ∨ mapWhat r = 2 := by
  unfold mapWhat
  cases isBlankB r <;> cases goesB r <;> cases isRefusedB r <;> simp
def mappedK (l : List UInt8) (fold : Bool) : Option (List Int) := if validD l then kept fold (runes l) else none
def KRel (l : List UInt8) (fold : Bool) (w : World) (ANS : Option (List Int)) (v i : Value) (wr : World) : Prop :=
  ∃ (k : Nat) (ks : List Int), i = .int .i64 k ∧ k ≤ l.length ∧ ks.length ≤ k ∧ wr.ownsRow w.heap.size 21 1 v ks.length (iV .i32 ks) ∧ Below w.heap.size w wr ∧ (kept fold (runes (l.drop k))).map (ks ++ ·) = ANS

set_option maxRecDepth 100000 in
set_option maxHeartbeats 2000000 in
theorem RefMapped_any (l : List UInt8) (fold : Bool) (w : World) (hl : l.length ≤ 1099511627776) :
    Calls Tryd.prog 24 #[.string ⟨l.toArray⟩, .bool fold] w (RunesOk w (mappedK l fold)) := by
  have c1 := RefText_any l w hl
  unfold mappedK
  obtain ⟨V, hV⟩ : ∃ V, validD l = V := ⟨_, rfl⟩
  rw [hV] at c1 ⊢
  have HV := Lib.hid hV
  clear hV
  cases V
  · rw [if_neg (by simp)]
    go_enter Tryd.func24, Tryd.ntmps24
    go_wp2_with fail
    refine c1.mono ?_
    rintro e w' ⟨rfl, rfl⟩
    go_wp2_with fail
    go_ret2
    exact ⟨Below.refl _ _, rfl⟩
  · rw [if_pos rfl]
    obtain ⟨ANS, hA⟩ : ∃ ANS, kept fold (runes l) = ANS := ⟨_, rfl⟩
    rw [hA]
    have HA := Lib.hid hA
    clear hA
    go_enter Tryd.func24, Tryd.ntmps24
    go_wp2_with fail
    refine c1.mono ?_
    rintro e w' ⟨rfl, rfl⟩
    go_wp2_with fail
    go_loopw [6, 7] (fun v i wr => KRel l fold w ANS v i wr) (fun _ i _ => l.length - (RowKit.intOf i).toNat)
    case atStart =>
      refine ⟨0, [], rfl, by omega, by simp, World.ownsRow_nil _ _ _ _, Below.refl _ _, ?_⟩
      rw [List.drop_zero, HA.out]
      cases ANS <;> rfl
    case round =>
      obtain ⟨k, ks, rfl, hk, hkl, hown, hbe, hrun⟩ := hrel
      have HR := Lib.hid hrun
      clear hrun HA HV c1
      by_cases hlt : k < l.length
      · have c2 := RefRune_any l k wr hlt hl
        have hne : l.drop k ≠ [] := by intro h; have := congrArg List.length h; rw [List.length_drop] at this; simp at this; omega
        have hp := decode_pos (l.drop k) hne
        have hs := HR.out
        rw [runes_step _ hne, kept] at hs
        unfold decV at c2
        rw [List.length_drop] at hp
        rw [List.drop_drop] at hs
        generalize decodeL (l.drop k) = d at c2 hp hs
        obtain ⟨r, n⟩ := d
        simp only at c2 hp hs
        obtain ⟨hp1, hp2⟩ := hp
        have c3 := fun w => RefMap_any (r : Int) w
        have hbs := maps_bad (r : Int)
        have hst := maps_stays (r : Int)
        have hxx : xR fold (r : Int) = if fold then foldR (mapR r) else mapR r := rfl
        rw [hbs, hst, hxx] at hs
        clear hbs hst hxx HR hne
        obtain ⟨m, hm⟩ : ∃ m, mapR (r : Int) = m := ⟨_, rfl⟩
        have h3 : mapWhat (r : Int) = 0 ∨ mapWhat (r : Int) = 1 ∨ mapWhat (r : Int) = 2 := what3 _
        obtain ⟨t, ht⟩ : ∃ t, mapWhat (r : Int) = t := ⟨_, rfl⟩
        rw [hm, ht] at hs
        simp only [hm, ht] at c3
        rw [ht] at h3
        clear hm ht
        have C3 := Lib.hid c3
        clear c3
        rcases h3 with rfl | rfl | rfl
        · simp only [show ((0 : Int) == 2) = false from rfl, show ((0 : Int) == 0) = true from rfl, Bool.false_eq_true, if_false, if_true, Option.map_map] at hs
          have c4 := fun w => RefFold_any m w
          have C4 := Lib.hid c4
          clear c4
          obtain ⟨x, hx⟩ : ∃ x, (if fold then foldR m else m) = x := ⟨_, rfl⟩
          rw [hx] at hs
          have HS := Lib.hid hs
          have hsz := hbe.size
          obtain ⟨i0, hi, hz0, hz1, hz2⟩ := info_parts Tryd.infoRune
          have D2 : ∀ u ∈ [Value.int .i32 x], u.oneCell' = true := by intro u hu; simp at hu; subst hu; rfl
          have D3 : ks.length + 1 ≤ maxLen := by unfold maxLen; omega
          have D4 : (ks.length + 1) * 4 ≤ 140737488355328 := by omega
          clear hs
          have fin : ∀ (w2 : World) (v' : Value) (w3 : World), Below wr.heap.size wr w2 → w3.ownsRow w.heap.size 21 1 v' (ks.length + 1) (iV .i32 ks ++ [.int .i32 x]) → (w2.alloc (.cells #[.int .i32 x] 21)).grownBy w3 u6.ownBlock → KRel l fold w ANS v' (.int .i64 ((k : Int) + (n : Int))) w3 := by
            intro w2 v' w3 hb2 ho hg
            refine ⟨k + n, ks ++ [x], by rw [Int.natCast_add], by omega, by simp; omega, ?_, ?_, ?_⟩
            · rw [List.length_append, show iV .i32 (ks ++ [x]) = iV .i32 ks ++ [.int .i32 x] by simp [iV]]
              exact ho
            · have hbw : Below w.heap.size w w2 := below_ext hbe hb2
              exact (hbw.alloc hbw.size _).grown hg (by have := hbw.size; simp; omega) (fun b hb => (hown.lt b hb).1)
            · rw [← HS.out]
              congr 1
              funext y
              simp
          have FIN := Lib.hid fin
          clear fin
          have own2 : ∀ w2, Below wr.heap.size wr w2 → (w2.alloc (.cells #[.int .i32 x] 21)).ownsRow w.heap.size 21 1 u6 ks.length (iV .i32 ks) := fun w2 hb2 => (own_below hown hb2).alloc _
          have OWN := Lib.hid own2
          clear own2
          have bas : ∀ w2, Below wr.heap.size wr w2 → w.heap.size ≤ (w2.alloc (.cells #[.int .i32 x] 21)).heap.size := fun w2 hb2 => by have := hb2.size; simp; omega
          have BAS := Lib.hid bas
          clear bas
          cases fold
          · simp only [Bool.false_eq_true, if_false] at hx
            subst hx
            clear C4
            go_wp2_with fail
            refine c2.mono ?_
            rintro e w' ⟨rfl, rfl⟩
            go_wp2_with fail
            refine (C3.out _).mono ?_
            rintro e w2 ⟨rfl, hb2⟩
            go_wp2_with (at_builtin; refine wpList_append_own _ rfl (.tmp 40) (.tmp 42) 41 rfl w.heap.size 21 i0 (.int .i32 0) 1 4 Tryd.underlying41 hi hz0 hz1 hz2 rfl (by decide) u6 ks.length (iV .i32 ks) rfl (OWN.out w2 hb2) ⟨w2.heap.size, 0, none⟩ 1 1 [.int .i32 _] rfl rfl (cell_one_new _ _ _) D2 D3 D4 (BAS.out w2 hb2) ?_; intro v' w3 ho3 hg3 _)
            go_roundw
            case rel => exact FIN.out w2 _ w3 hb2 ho3 hg3
            case measure => simp [RowKit.intOf]; omega
          · simp only [if_true] at hx
            subst hx
            go_wp2_with fail
            refine c2.mono ?_
            rintro e w' ⟨rfl, rfl⟩
            go_wp2_with fail
            refine (C3.out _).mono ?_
            rintro e w2 ⟨rfl, hb2⟩
            go_wp2_with fail
            refine (C4.out _).mono ?_
            rintro e w4 ⟨rfl, hb4⟩
            have hb5 := below_ext hb2 hb4
            go_wp2_with (at_builtin; refine wpList_append_own _ rfl (.tmp 40) (.tmp 42) 41 rfl w.heap.size 21 i0 (.int .i32 0) 1 4 Tryd.underlying41 hi hz0 hz1 hz2 rfl (by decide) u6 ks.length (iV .i32 ks) rfl (OWN.out w4 hb5) ⟨w4.heap.size, 0, none⟩ 1 1 [.int .i32 _] rfl rfl (cell_one_new _ _ _) D2 D3 D4 (BAS.out w4 hb5) ?_; intro v' w3 ho3 hg3 _)
            go_roundw
            case rel => exact FIN.out w4 _ w3 hb5 ho3 hg3
            case measure => simp [RowKit.intOf]; omega
        · simp only [show ((1 : Int) == 2) = false from rfl, show ((1 : Int) == 0) = false from rfl, Bool.false_eq_true, if_false, Option.map_map] at hs
          have HS := Lib.hid hs
          clear hs
          go_wp2_with fail
          refine c2.mono ?_
          rintro e w' ⟨rfl, rfl⟩
          go_wp2_with fail
          refine (C3.out _).mono ?_
          rintro e w2 ⟨rfl, hb2⟩
          go_wp2_with fail
          go_roundw
          case rel => exact ⟨k + n, ks, by go_num, by omega, by omega, own_below hown hb2, below_ext hbe hb2, HS.out⟩
          case measure => simp [RowKit.intOf]; omega
        · simp only [show ((2 : Int) == 2) = true from rfl, if_true] at hs
          obtain rfl : ANS = none := by rw [← hs]; rfl
          clear hs
          go_wp2_with fail
          refine c2.mono ?_
          rintro e w' ⟨rfl, rfl⟩
          go_wp2_with fail
          refine (C3.out _).mono ?_
          rintro e w2 ⟨rfl, hb2⟩
          go_wp2_with fail
          go_ret2
          exact ⟨below_ext hbe hb2, rfl⟩
      · have hs := HR.out
        rw [List.drop_of_length_le (by omega), runes_nil, kept] at hs
        obtain rfl : ANS = some ks := by rw [← hs]; simp
        clear hs HR
        go_wp2_with fail
        go_ret2
        exact ⟨hbe, _, rfl, ints_own hown⟩
end Go.Proofs.YtlbfmapbpbpipaaDoor
