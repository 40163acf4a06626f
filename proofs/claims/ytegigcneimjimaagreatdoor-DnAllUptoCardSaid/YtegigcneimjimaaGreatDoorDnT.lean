/- dn.IsType: what it returns. -/
import Derived.Test.YtegigcneimjimaaGreatDoorDnA
import Derived.Shelf.Strings.SlTrimAscii
import Derived.Lib.SplitLaws
namespace Go.Proofs.YtegigcneimjimaaGreatDoor
open Go.RowKit Go.Lib

theorem mk_data (b : ByteArray) : b = ⟨b.data.toList.toArray⟩ := by cases b; simp
theorem dw_nil : ∀ x : List UInt8, x.dropWhile digB = [] ↔ x.all digB = true
  | [] => by simp
  | c :: t => by
    by_cases h : digB c = true
    · rw [List.dropWhile_cons_of_pos h, List.all_cons, h, Bool.true_and]
      exact dw_nil t
    · rw [List.dropWhile_cons_of_neg h]
      simp [h]
theorem mem_tw {p : UInt8 → Bool} {x : UInt8} : ∀ {l : List UInt8}, x ∈ l.takeWhile p → p x = true
  | [], h => by simp at h
  | c :: t, h => by
    by_cases hc : p c = true
    · rw [List.takeWhile_cons_of_pos hc] at h
      rcases List.mem_cons.1 h with rfl | h
      · exact hc
      · exact mem_tw h
    · rw [List.takeWhile_cons_of_neg hc] at h
      simp at h
theorem trim_digits (l : List UInt8) : (trimS l [48, 49, 50, 51, 52, 53, 54, 55, 56, 57] = []) ↔ l.all digB = true := by
  have hc : ∀ c : UInt8, ([48, 49, 50, 51, 52, 53, 54, 55, 56, 57] : List UInt8).contains c = digB c := by
    have : ∀ i : Fin 256, ([48, 49, 50, 51, 52, 53, 54, 55, 56, 57] : List UInt8).contains (UInt8.ofNat i.val) = digB (UInt8.ofNat i.val) := by decide +kernel
    intro c
    have h := this ⟨c.toNat, UInt8.toNat_lt c⟩
    simpa using h
  unfold trimS trimLeftS trimRightS
  simp only [hc]
  rw [dw_nil, List.all_eq_true, List.all_eq_true]
  constructor
  · intro h x hx
    by_cases hd : digB x = true
    · exact hd
    · have hmem : x ∈ l.reverse.dropWhile digB := by
        have := List.takeWhile_append_dropWhile (p := digB) (l := l.reverse)
        have hx2 : x ∈ l.reverse.takeWhile digB ++ l.reverse.dropWhile digB := by rw [this]; exact List.mem_reverse.2 hx
        rcases List.mem_append.1 hx2 with h1 | h1
        · exact absurd (mem_tw h1) hd
        · exact h1
      exact h x (List.mem_reverse.2 hmem)
  · intro h x hx
    exact h x (List.mem_reverse.1 ((List.dropWhile_sublist _).subset (List.mem_reverse.1 hx)))
theorem Split_l (s : List UInt8) (w : World) (hs : s.length ≤ 1000) (hE : Env w) :
    Calls Tryz.prog 246 #[.string ⟨s.toArray⟩, .string ⟨#[46]⟩] w fun e w' => e = .returned (.slice (some ⟨w.heap.size, 0, none⟩) (split s [46]).length (split s [46]).length) ∧ ((∀ j l, (split s [46])[j]? = some l → w'.cell? ⟨w.heap.size, j, none⟩ = some (.string ⟨l.toArray⟩)) ∧ w.heap.size < w'.heap.size ∧ Below w.heap.size w w') := by
  obtain ⟨m, hm⟩ := hE.maxl
  have hlen := Lib.splitB_all ⟨#[46]⟩ (by decide) 0 _ (⟨s.toArray⟩ : ByteArray) rfl
  have hd := splitB_data ⟨#[46]⟩ 0 (countB ⟨s.toArray⟩ ⟨#[46]⟩) ⟨s.toArray⟩
  have hsp : split s [46] = (splitB ⟨#[46]⟩ 0 (countB ⟨s.toArray⟩ ⟨#[46]⟩) ⟨s.toArray⟩).map (·.data.toList) := by rw [hd]; simp [split, countB]
  have hl2 : (split s [46]).length = countB ⟨s.toArray⟩ ⟨#[46]⟩ + 1 := by rw [hsp, List.length_map, hlen]
  refine (Tryz.strings_Split ⟨s.toArray⟩ ⟨#[46]⟩ m w (by rw [Lib.size_mk]; omega) hm (by decide)).mono ?_
  rintro e w' ⟨rfl, rfl⟩
  refine ⟨by rw [hl2], ?_, by simp, (Below.refl _ _).alloc (Nat.le_refl _) _⟩
  intro j l hj
  have hb : (w.alloc (.cells ((splitB ⟨#[46]⟩ 0 (countB ⟨s.toArray⟩ ⟨#[46]⟩) ⟨s.toArray⟩).map Value.string).toArray 9)).heap[w.heap.size]? = some (.cells ((splitB ⟨#[46]⟩ 0 (countB ⟨s.toArray⟩ ⟨#[46]⟩) ⟨s.toArray⟩).map Value.string).toArray 9 (0, 0)) := by
    show (w.heap.push _)[w.heap.size]? = _
    simp
  rw [Lib.cell_of_heap hb]
  rw [hsp, List.getElem?_map] at hj
  cases hq : (splitB ⟨#[46]⟩ 0 (countB ⟨s.toArray⟩ ⟨#[46]⟩) ⟨s.toArray⟩)[j]? with
  | none => rw [hq] at hj; cases hj
  | some x =>
    rw [hq] at hj
    cases hj
    simp only [List.getElem?_toArray, List.getElem?_map, hq, Option.map_some]
theorem Trim_l (s : List UInt8) (w : World) (hs : s.length ≤ 1099511627776) :
    Calls Tryz.prog 247 #[.string ⟨s.toArray⟩, .string ⟨#[48, 49, 50, 51, 52, 53, 54, 55, 56, 57]⟩] w fun e w' => e = .returned (.string ⟨(trimS s [48, 49, 50, 51, 52, 53, 54, 55, 56, 57]).toArray⟩) ∧ Below w.heap.size w w' :=
  Any.strings_Trim_ascii Tryz.lays160 (fun w => by kernel_rfl) (by kernel_rfl) ⟨s.toArray⟩ ⟨#[48, 49, 50, 51, 52, 53, 54, 55, 56, 57]⟩ w (by rw [Lib.size_mk]; omega) (by decide) (by
    intro j b hj
    have : b ∈ ([48, 49, 50, 51, 52, 53, 54, 55, 56, 57] : List UInt8) := List.mem_of_getElem? hj
    clear hj
    revert b
    decide)
def ORel (w : World) (ls : List (List UInt8)) (ANS : Bool) (i : Value) (wr : World) : Prop :=
  ∃ k : Nat, i = .int .i64 (k : Int) ∧ k ≤ ls.length ∧ (∀ j l, ls[j]? = some l → wr.cell? ⟨w.heap.size, j, none⟩ = some (.string ⟨l.toArray⟩)) ∧ w.heap.size < wr.heap.size ∧ Below w.heap.size w wr ∧ ((ls.drop k).all numB && decide (1 < ls.length)) = ANS
theorem splitK_length (sep : List UInt8) (save : Nat) : ∀ (k : Nat) (s : List UInt8), ∀ l ∈ splitK sep save k s, l.length ≤ s.length + save
  | 0, s, l, h => by simp [splitK] at h; subst h; omega
  | k + 1, s, l, h => by
    unfold splitK at h
    split at h
    · simp at h; subst h; omega
    · rcases List.mem_cons.1 h with rfl | h
      · rw [List.length_take]; omega
      · have := splitK_length sep save k _ l h
        rw [List.length_drop] at this
        omega
set_option maxRecDepth 100000 in
set_option maxHeartbeats 2000000 in
theorem isOid_any (s : List UInt8) (w : World) (hs : s.length ≤ 64) (hE : Env w) :
    Calls Tryz.prog 196 #[.string ⟨s.toArray⟩] w fun e w' => e = .returned (.bool (oidB s)) ∧ Below w.heap.size w w' := by
  have k1 := Split_l s w (by omega) hE
  have hlen : ∀ l ∈ split s [46], l.length ≤ 64 := fun l hl => Nat.le_trans (splitK_length _ 0 _ _ l hl) (by omega)
  have hcnt : (split s [46]).length ≤ 1000000 := by
    have h1 := splitB_data ⟨#[46]⟩ 0 (countB ⟨s.toArray⟩ ⟨#[46]⟩) ⟨s.toArray⟩
    have h2 : split s [46] = (splitB ⟨#[46]⟩ 0 (countB ⟨s.toArray⟩ ⟨#[46]⟩) ⟨s.toArray⟩).map (·.data.toList) := by rw [h1]; simp [split, countB]
    have h3 := splitB_length_le ⟨#[46]⟩ 0 (countB ⟨s.toArray⟩ ⟨#[46]⟩) (⟨s.toArray⟩ : ByteArray)
    have h4 := countB_le ⟨#[46]⟩ (by decide) _ (⟨s.toArray⟩ : ByteArray) (Nat.le_refl _)
    rw [Lib.size_mk] at h4
    rw [h2, List.length_map]
    omega
  unfold oidB
  obtain ⟨ANS, hA⟩ : ∃ ANS, ((split s [46]).all numB && decide (1 < (split s [46]).length)) = ANS := ⟨_, rfl⟩
  rw [hA]
  obtain ⟨ls, hls⟩ : ∃ ls, split s [46] = ls := ⟨_, rfl⟩
  rw [hls] at k1 hlen hA hcnt
  have HA := Lib.hid hA
  have HL := Lib.hid hlen
  clear hls hA hlen
  go_enter Tryz.func196, Tryz.ntmps196
  go_wp2_with (go_at_call 246; refine k1.mono ?_; rintro e w1 ⟨rfl, hc1, hs1, hb1⟩)
  go_loopw [10] (fun i wr => ORel w ls ANS i wr) (fun i _ => ls.length - (RowKit.intOf i).toNat)
  case atStart => exact ⟨0, rfl, by omega, hc1, hs1, hb1, HA.out⟩
  case round =>
    clear hc1 hs1 hb1 HA
    obtain ⟨k, rfl, hk, hc, hsz, hbe, hans⟩ := hrel
    have HC := Lib.hid hc
    by_cases hkl : k < ls.length
    · obtain ⟨x, hx⟩ : ∃ x, ls[k] = x := ⟨_, rfl⟩
      have hxk : ls[k]? = some x := by rw [List.getElem?_eq_getElem hkl, hx]
      have hcell := hc k x hxk
      have hxl : x.length ≤ 64 := HL.out x (List.mem_of_getElem? hxk)
      rw [List.drop_eq_getElem_cons hkl, hx, List.all_cons] at hans
      have k2 := Trim_l x wr (by omega)
      have htr := trim_digits x
      obtain ⟨T, hT⟩ : ∃ T, trimS x [48, 49, 50, 51, 52, 53, 54, 55, 56, 57] = T := ⟨_, rfl⟩
      rw [hT] at k2 htr
      clear hT hc hx hxk
      have hnx : numB x = (!x.isEmpty && !(decide (1 < x.length) && x.getD 0 0 == 48) && x.all digB) := rfl
      rw [hnx] at hans
      clear hnx
      by_cases h0 : x = []
      · subst h0
        rw [show (!([] : List UInt8).isEmpty && !(decide (1 < ([] : List UInt8).length) && ([] : List UInt8).getD 0 0 == 48) && ([] : List UInt8).all digB) = false from rfl, Bool.false_and, Bool.false_and] at hans
        subst hans
        clear htr k2
        go_wp2_with fail
        go_ret
        exact ⟨rfl, hbe⟩
      · have hne : x.isEmpty = false := by cases x <;> simp_all
        have hx1 : 0 < x.length := by cases x <;> simp_all
        rw [hne, Bool.not_false, Bool.true_and] at hans
        have hg0 : x.getD 0 0 = x[0] := by simp [hx1]
        rw [hg0] at hans
        have hq0 : (((((⟨x.toArray⟩ : ByteArray)[0]'(by rw [Lib.size_mk]; omega)).toNat : Int)) == 48) = (x[0] == 48) := by
          show (((x[0]).toNat : Int) == 48) = _
          exact (beq_nat _ 48).trans (u8_beq x[0] 48 (by decide)).symm
        obtain ⟨p, hp⟩ : ∃ p, decide (1 < x.length) = p := ⟨_, rfl⟩
        have hp1 : decide ((1 : Int) < (x.length : Int)) = p := by rw [← hp]; exact decide_eq_decide.2 (by omega)
        rw [hp] at hans
        generalize (x[0] == 48) = q at hq0 hans
        clear hp hg0
        have hT1 : (T == []) = x.all digB := by rw [Bool.eq_iff_iff, beq_iff_eq]; exact htr
        generalize x.all digB = d at hT1 hans
        clear htr
        have HS := Lib.hid hans
        clear hans
        have go1 : (p && q) = true → ANS = false := fun h => by rw [← HS.out, h]; rfl
        have go2 : d = false → ANS = false := fun h => by rw [← HS.out, h]; simp
        have go3 : (p && q) = false → d = true → ((ls.drop (k + 1)).all numB && decide (1 < ls.length)) = ANS := fun h h' => by rw [← HS.out, h, h']; simp
        have G1 := Lib.hid go1
        have G2 := Lib.hid go2
        have G3 := Lib.hid go3
        clear go1 go2 go3 HS
        cases p <;> cases q
        · cases d
          · have e := G2.out rfl
            subst e
            have hTe : T.isEmpty = false := by cases T <;> simp_all
            clear hT1 G1 G2 G3
            go_wp2_with (go_at_call 247; refine k2.mono ?_; rintro e w2 ⟨rfl, hb2⟩)
            go_ret
            exact ⟨rfl, below_ext hbe hb2⟩
          · have hTe : T = [] := by simpa using hT1
            subst hTe
            have g := G3.out rfl rfl
            have HG := Lib.hid g
            clear g hT1 G1 G2 G3
            go_wp2_with (go_at_call 247; refine k2.mono ?_; rintro e w2 ⟨rfl, hb2⟩)
            go_roundw
            case rel => exact ⟨k + 1, by go_num, by omega, fun j l h => (hb2.cell (by exact hsz)).trans (HC.out j l h), Nat.lt_of_lt_of_le hsz hb2.size, below_ext hbe hb2, HG.out⟩
            case measure => simp [RowKit.intOf]; omega
        · cases d
          · have e := G2.out rfl
            subst e
            have hTe : T.isEmpty = false := by cases T <;> simp_all
            clear hT1 G1 G2 G3
            go_wp2_with (go_at_call 247; refine k2.mono ?_; rintro e w2 ⟨rfl, hb2⟩)
            go_ret
            exact ⟨rfl, below_ext hbe hb2⟩
          · have hTe : T = [] := by simpa using hT1
            subst hTe
            have g := G3.out rfl rfl
            have HG := Lib.hid g
            clear g hT1 G1 G2 G3
            go_wp2_with (go_at_call 247; refine k2.mono ?_; rintro e w2 ⟨rfl, hb2⟩)
            go_roundw
            case rel => exact ⟨k + 1, by go_num, by omega, fun j l h => (hb2.cell (by exact hsz)).trans (HC.out j l h), Nat.lt_of_lt_of_le hsz hb2.size, below_ext hbe hb2, HG.out⟩
            case measure => simp [RowKit.intOf]; omega
        · cases d
          · have e := G2.out rfl
            subst e
            have hTe : T.isEmpty = false := by cases T <;> simp_all
            clear hT1 G1 G2 G3
            go_wp2_with (go_at_call 247; refine k2.mono ?_; rintro e w2 ⟨rfl, hb2⟩)
            go_ret
            exact ⟨rfl, below_ext hbe hb2⟩
          · have hTe : T = [] := by simpa using hT1
            subst hTe
            have g := G3.out rfl rfl
            have HG := Lib.hid g
            clear g hT1 G1 G2 G3
            go_wp2_with (go_at_call 247; refine k2.mono ?_; rintro e w2 ⟨rfl, hb2⟩)
            go_roundw
            case rel => exact ⟨k + 1, by go_num, by omega, fun j l h => (hb2.cell (by exact hsz)).trans (HC.out j l h), Nat.lt_of_lt_of_le hsz hb2.size, below_ext hbe hb2, HG.out⟩
            case measure => simp [RowKit.intOf]; omega
        · have e := G1.out rfl
          subst e
          clear G1 G2 G3 k2 hT1
          go_wp2_with fail
          go_ret
          exact ⟨rfl, hbe⟩
    · obtain rfl : k = ls.length := by omega
      rw [List.drop_of_length_le (Nat.le_refl _), List.all_nil, Bool.true_and] at hans
      have h1 : decide ((1 : Int) < (ls.length : Int)) = ANS := by rw [← hans]; exact decide_eq_decide.2 (by omega)
      clear hans hc
      go_wp2_with fail
      go_ret
      exact ⟨rfl, hbe⟩
set_option maxRecDepth 100000 in
set_option maxHeartbeats 2000000 in
theorem IsType_any (s : List UInt8) (w : World) (hs : s.length ≤ 1099511627776) (hE : Env w) :
    Calls Tryz.prog 114 #[.string ⟨s.toArray⟩] w fun e w' => e = .returned (.bool (isTyB s)) ∧ Below w.heap.size w w' := by
  unfold isTyB
  by_cases h0 : s = []
  · subst h0
    rw [if_pos (.inl rfl)]
    go_enter Tryz.func114, Tryz.ntmps114
    go_wp2
    go_ret
    exact ⟨rfl, Below.refl _ _⟩
  · have hne : s.isEmpty = false := by cases s <;> simp_all
    have hl : 0 < s.length := by cases s <;> simp_all
    by_cases h64 : 64 < s.length
    · rw [if_pos (.inr h64)]
      have q1 : decide ((64 : Int) < (s.length : Int)) = true := decide_eq_true (by omega)
      go_enter Tryz.func114, Tryz.ntmps114
      go_wp2
      go_ret
      exact ⟨rfl, Below.refl _ _⟩
    · rw [if_neg (by rintro (h | h); exact h0 h; exact h64 h)]
      have q1 : decide ((64 : Int) < (s.length : Int)) = false := decide_eq_false (by omega)
      have hg0 : s.getD 0 0 = s[0] := by simp [hl]
      have k1 := isLetter_any s[0] w
      rw [hg0]
      generalize letB s[0] = p at k1 ⊢
      cases p
      · rw [if_neg (by simp)]
        have k2 := isOid_any s w (by omega) hE
        go_enter Tryz.func114, Tryz.ntmps114
        go_wp2_with (first | (go_at_call 195; refine Calls.mono (show Calls _ _ _ _ _ from k1) ?_; rintro e w' ⟨rfl, rfl⟩) | (go_at_call 196; refine k2.mono ?_; rintro e w2 ⟨rfl, hb2⟩))
        go_ret
        exact ⟨rfl, hb2⟩
      · rw [if_pos rfl]
        obtain ⟨ANS, hA⟩ : ∃ ANS, s.all (fun c => inTyB c && c != 46) = ANS := ⟨_, rfl⟩
        rw [hA]
        have HA := Lib.hid hA
        clear hA
        go_enter Tryz.func114, Tryz.ntmps114
        go_wp2_with (go_at_call 195; refine Calls.mono (show Calls _ _ _ _ _ from k1) ?_; rintro e w' ⟨rfl, rfl⟩)
        go_loopw [21] (fun i wr => ∃ k : Nat, i = .int .i64 (k : Int) ∧ k ≤ s.length ∧ wr = w ∧ (s.drop k).all (fun c => inTyB c && c != 46) = ANS) (fun i _ => s.length - (RowKit.intOf i).toNat)
        case atStart => exact ⟨0, rfl, by omega, rfl, HA.out⟩
        case round =>
          obtain ⟨k, rfl, hk, rfl, hans⟩ := hrel
          clear HA
          by_cases hkl : k < s.length
          · rw [List.drop_eq_getElem_cons hkl, List.all_cons] at hans
            have k3 := inType_any s[k] wr
            have hq : (((((⟨s.toArray⟩ : ByteArray)[k]'(by rw [Lib.size_mk]; omega)).toNat : Int)) == 46) = (s[k] == 46) := by
              show (((s[k]).toNat : Int) == 46) = _
              exact (beq_nat _ 46).trans (u8_beq s[k] 46 (by decide)).symm
            rw [show (s[k] != 46) = !(s[k] == 46) from rfl] at hans
            generalize (s[k] == 46) = q at hq hans
            generalize inTyB s[k] = p at k3 hans
            have HS := Lib.hid hans
            clear hans
            cases p
            · have e : ANS = false := by rw [← HS.out]; rfl
              subst e
              go_wp2_with (go_at_call 197; refine Calls.mono (show Calls _ _ _ _ _ from k3) ?_; rintro e w' ⟨rfl, rfl⟩)
              go_ret
              exact ⟨rfl, Below.refl _ _⟩
            · cases q
              · go_wp2_with (go_at_call 197; refine Calls.mono (show Calls _ _ _ _ _ from k3) ?_; rintro e w' ⟨rfl, rfl⟩)
                go_roundw
                case rel => exact ⟨k + 1, by go_num, by omega, trivial, by rw [← HS.out]; simp⟩
                case measure => simp [RowKit.intOf]; omega
              · have e : ANS = false := by rw [← HS.out]; rfl
                subst e
                go_wp2_with (go_at_call 197; refine Calls.mono (show Calls _ _ _ _ _ from k3) ?_; rintro e w' ⟨rfl, rfl⟩)
                go_ret
                exact ⟨rfl, Below.refl _ _⟩
          · obtain rfl : k = s.length := by omega
            rw [List.drop_of_length_le (Nat.le_refl _), List.all_nil] at hans
            subst hans
            go_wp2_with fail
            go_ret
            exact ⟨rfl, Below.refl _ _⟩
end Go.Proofs.YtegigcneimjimaaGreatDoor
