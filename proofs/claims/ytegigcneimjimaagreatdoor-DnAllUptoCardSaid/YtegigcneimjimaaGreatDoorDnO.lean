/- dn.Print: what it returns. -/
import Derived.Test.YtegigcneimjimaaGreatDoorDnM
import Derived.Test.YtegigcneimjimaaGreatDoorDnHx
import Derived.Maps.AppendAt
import Derived.Deep.RegionHeld3
import Derived.Deep.AppendLies
namespace Go.Proofs.YtegigcneimjimaaGreatDoor
open Go.RowKit Go.Lib

set_option maxRecDepth 100000 in
/-- IsType of texts of whatever length. -/
theorem IsType_all (s : List UInt8) (w : World) (hs : s.length ≤ 140737488355328) (hE : Env w) :
    Calls Tryz.prog 114 #[.string ⟨s.toArray⟩] w fun e w' => e = .returned (.bool (isTyB s)) ∧ Below w.heap.size w w' := by
  by_cases h : s.length ≤ 1099511627776
  · exact IsType_any s w h hE
  · have e : isTyB s = false := by unfold isTyB; rw [if_pos (.inr (by omega))]
    rw [e]
    have h0 : s.isEmpty = false := by cases s <;> simp_all
    have h1 : decide ((64 : Int) < (s.length : Int)) = true := decide_eq_true (by omega)
    go_enter Tryz.func114, Tryz.ntmps114
    go_wp2
    go_ret
    exact ⟨rfl, Below.refl _ _⟩
set_option maxRecDepth 100000 in
theorem print1_any (x : Av) (w : World) (hx : x.1.length ≤ 140737488355328) (hE : Env w) :
    Calls Tryz.prog 125 #[.agg #[.string ⟨x.1.toArray⟩, .string ⟨x.2.toArray⟩]] w fun e w' => e = .returned (.bool (!isTyB x.1)) ∧ Below w.heap.size w w' := by
  have hb0 := (Below.refl w.heap.size w).alloc (Nat.le_refl _) (.cells #[.string ⟨x.1.toArray⟩, .string ⟨x.2.toArray⟩] 146)
  have k1 := IsType_all x.1 (w.alloc (.cells #[.string ⟨x.1.toArray⟩, .string ⟨x.2.toArray⟩] 146)) hx (hE.below hb0)
  generalize isTyB x.1 = q at k1 ⊢
  go_enter Tryz.func125, Tryz.ntmps125
  go_wp2_with (go_at_call 114; refine Calls.mono (show Calls _ _ _ _ _ from k1) ?_; rintro e w1 ⟨rfl, hb1⟩)
  go_ret
  exact ⟨rfl, below_ext hb0 hb1⟩
def okR (r : List Av) : Bool := !r.isEmpty && r.all fun a => isTyB a.1
theorem any_not (r : List Av) : r.any (fun a => !isTyB a.1) = !(r.all fun a => isTyB a.1) := by
  induction r with
  | nil => rfl
  | cons a r ih => simp [ih, Bool.not_and]
def sV (ls : List (List UInt8)) : List Value := ls.map fun l => .string ⟨l.toArray⟩
theorem sV_length (ls : List (List UInt8)) : (sV ls).length = ls.length := by simp [sV]
theorem sV_append (a b : List (List UInt8)) : sV (a ++ b) = sV a ++ sV b := by simp [sV]
theorem Tryz.infoStr : (Tryz.prog.info? 9).map (fun i => (i.zero, i.size, i.bytes)) = some (some (.string ⟨#[]⟩), 1, 16) := by kernel_rfl
theorem app_mk (a b : List UInt8) : (⟨a.toArray⟩ ++ ⟨b.toArray⟩ : ByteArray) = ⟨(a ++ b).toArray⟩ := by
  apply ByteArray.ext
  simp [ByteArray.data_append]
theorem join_eq (c : UInt8) : ∀ ls : List (List UInt8), Lib.join ls [c] = joinB c ls
  | [] => rfl
  | [x] => by simp [Lib.join, joinB, List.intercalate]
  | x :: y :: t => by
    have ih := join_eq c (y :: t)
    rw [joinB, ← ih]
    simp [Lib.join, List.intercalate, List.intersperse]
    intro h
    cases h
/-- strings.Join of a row of the call's own. -/
theorem Join_own (B : Nat) (v : Value) (ls : List (List UInt8)) (c : UInt8) (w : World) (h : w.ownsRow B 9 1 v ls.length (sV ls)) (hl : ls.length ≤ 1000000) (hj : (joinB c ls).length ≤ 1000000000) :
    Calls Tryz.prog 127 #[v, .string ⟨#[c]⟩] w fun e w' => e = .returned (.string ⟨(joinB c ls).toArray⟩) ∧ Below w.heap.size w w' := by
  rcases h.2 with ⟨rfl, h0⟩ | ⟨g, cap, cur, rfl, hbg, hg, hc, r'⟩
  · obtain rfl : ls = [] := List.eq_nil_of_length_eq_zero h0
    exact (Tryz.strings_Join_none none 0 ⟨#[c]⟩ w).mono fun e w' ⟨he, hw⟩ => ⟨he, by rw [hw]; exact Below.refl _ _⟩
  · have hd : (ls.map fun l => (⟨l.toArray⟩ : ByteArray)).map (·.data.toList) = ls := by simp [List.map_map, Function.comp_def]
    have k := Tryz.strings_Join g 0 cap (ls.map fun l => ⟨l.toArray⟩) ⟨#[c]⟩ w (fun j x hj => by
      rw [List.getElem?_map] at hj
      cases hq : ls[j]? with
      | none => rw [hq] at hj; cases hj
      | some l =>
        rw [hq] at hj
        cases hj
        have := h.cells (g := g) rfl j (.string ⟨l.toArray⟩) (by simp [sV, hq])
        rw [Addr.add_lit] at this
        exact this) (Array.getElem?_eq_some_iff.1 hg).1 (by simp; omega) (by simpa using hc) (by rw [hd, join_eq]; omega)
    rw [hd] at k
    rw [List.length_map] at k
    refine k.mono fun e w' ⟨he, hw⟩ => ⟨?_, hw⟩
    rw [he]
    show _ = Ending.returned (.string ⟨(joinB c ls).toArray⟩)
    rw [← join_eq]
theorem wrB_length (b : Bool) (v : List UInt8) : (wrB b v).length ≤ 3 * v.length := by
  induction v generalizing b with
  | nil => simp [wrB]
  | cons c v ih =>
    have := ih false
    rw [wrB, List.length_append]
    simp only [List.length_cons]
    split
    · simp; omega
    · split
      · simp; omega
      · simp; omega
theorem joinB_length (c : UInt8) (M : Nat) : ∀ ls : List (List UInt8), (∀ l ∈ ls, l.length ≤ M) → (joinB c ls).length ≤ ls.length * (M + 1)
  | [], _ => by simp [joinB]
  | [x], h => by have := h x (by simp); simp [joinB]; omega
  | x :: y :: t, h => by
    have ih := joinB_length c M (y :: t) (fun l hl => h l (List.mem_cons_of_mem _ hl))
    have hx := h x (by simp)
    show (x ++ [c] ++ joinB c (y :: t)).length ≤ _
    simp only [List.length_append, List.length_cons, List.length_nil] at ih ⊢
    rw [Nat.add_mul (t.length + 1) 1 (M + 1)]
    omega
theorem writtenB_length (v : List UInt8) : (writtenB v).length ≤ 3 * v.length + 1 := by
  have := wrB_length true v
  have := hexL_length v
  unfold writtenB
  split <;> (try simp only [List.length_cons]) <;> omega
theorem avB_length (a : Av) (h1 : a.1.length ≤ 1000000) (h2 : a.2.length ≤ 1000000) : (avB a).length ≤ 4000002 := by
  have := writtenB_length a.2
  unfold avB
  simp
  omega
theorem isTy_len {t : List UInt8} (h : isTyB t = true) : t.length ≤ 64 := by
  unfold isTyB at h
  split at h
  · cases h
  · rename_i h0
    have : ¬ 64 < t.length := fun e => h0 (.inr e)
    omega
def L1Rel (w : World) (d : List (List Av)) (ANS : Bool) (i : Value) (wr : World) : Prop := ∃ k : Nat, i = .int .i64 (k : Int) ∧ k ≤ d.length ∧ Below w.heap.size w wr ∧ (d.drop k).all okR = ANS
/-- The texts of the pairs so far. -/
def P3Rel (W : World) (w : World) (r : List Av) (v i : Value) (wr : World) : Prop :=
  ∃ k : Nat, i = .int .i64 (k : Int) ∧ k ≤ r.length ∧ Below W.heap.size W wr ∧ Below w.heap.size w wr ∧ wr.ownsRow W.heap.size 9 1 v k (sV ((r.map avB).take k))
def P2Rel (w : World) (d : List (List Av)) (v i : Value) (wr : World) : Prop :=
  ∃ k : Nat, i = .int .i64 (k : Int) ∧ k ≤ d.length ∧ Below w.heap.size w wr ∧ wr.ownsRow w.heap.size 9 1 v k (sV ((d.map partB).take k))
set_option maxRecDepth 100000 in
set_option maxHeartbeats 4000000 in
theorem Print_any (v : Value) (d : List (List Av)) (w : World) (h : DnAt w v d) (hE : Env w) (hok : ∀ r ∈ d, ∀ a ∈ r, a.1.length ≤ 140737488355328) (hdl : d.length ≤ 140737488355328) (hrl : ∀ r ∈ d, r.length ≤ 140737488355328) :
    Calls Tryz.prog 23 #[v] w fun e w' => e = .returned (.tuple #[.string ⟨(printB d).1.toArray⟩, .int .i64 (printB d).2]) ∧ Below w.heap.size w w' := by
  obtain ⟨a1, c1, rfl, hc1, hx1⟩ := id h
  clear hx1
  have HH := Lib.hid h
  have HK := Lib.hid hok
  have HR := Lib.hid hrl
  clear h hok hrl
  obtain ⟨q, n, hqn⟩ : ∃ q n, printB d = (q, n) := ⟨_, _, rfl⟩
  rw [hqn]
  simp only
  unfold printB at hqn
  obtain ⟨R, hR⟩ : ∃ R, rightB d = R := ⟨_, rfl⟩
  rw [hR] at hqn
  have hR2 : d.all okR = R := hR
  have HA := Lib.hid hR2
  have HQ := Lib.hid hqn
  clear hR hR2 hqn
  go_enter Tryz.func23, Tryz.ntmps23
  go_wp2_with fail
  go_loopw [15] (fun i wr => L1Rel w d R i wr) (fun i _ => d.length - (RowKit.intOf i).toNat)
  case atStart => exact ⟨0, rfl, by omega, Below.refl _ _, HA.out⟩
  case round =>
    obtain ⟨k, rfl, hk, hbe, hans⟩ := hrel
    by_cases hkl : k < d.length
    · obtain ⟨x, hx⟩ : ∃ x, d[k] = x := ⟨_, rfl⟩
      have hxk : d[k]? = some x := by rw [List.getElem?_eq_getElem hkl, hx]
      have hmem : x ∈ d := List.mem_of_getElem? hxk
      have hr0 : d ≠ [] := by intro e; rw [e] at hkl; simp at hkl
      rw [List.drop_eq_getElem_cons hkl, hx, List.all_cons] at hans
      obtain ⟨a2, cap2, e2, _, hcell⟩ := HH.out.below hbe
      obtain ⟨g, o, ha, hcc⟩ := hcell hr0
      cases e2
      subst ha
      obtain ⟨u, p1, hu⟩ := hcc k x hxk
      clear hcc hcell
      have hxl := HR.out x hmem
      have kc := print1_contains u x wr hu (by omega) (fun a => !isTyB a.1) (fun y hy w1 hw1 => print1_any y w1 (HK.out x hmem y hy) ((hE.below hbe).below hw1))
      rw [any_not] at kc
      obtain ⟨au, cu, hue, _, _⟩ := hu
      subst hue
      clear hx hxk hmem
      have hox : okR x = (!x.isEmpty && x.all fun a => isTyB a.1) := rfl
      rw [hox] at hans
      generalize (x.all fun a => isTyB a.1) = t at kc hans
      by_cases x0 : x = []
      · subst x0
        have e : R = false := by rw [← hans]; rfl
        subst e
        have hq := HQ.out
        rw [if_pos rfl] at hq
        cases hq
        clear kc hans
        go_wp2_with fail
        go_ret2
        exact ⟨rfl, hbe⟩
      · have hne : x.isEmpty = false := by cases x <;> simp_all
        have hxp : ((x.length : Int) == 0) = false := by
          have : x.length ≠ 0 := fun e => x0 (List.eq_nil_of_length_eq_zero e)
          rw [beq_eq_false_iff_ne]
          omega
        rw [hne, Bool.not_false, Bool.true_and] at hans
        cases t with
        | false =>
          have e : R = false := by rw [← hans]; rfl
          subst e
          have hq := HQ.out
          rw [if_pos rfl] at hq
          cases hq
          clear hans x0 hne
          go_wp2_with (go_at_call 124; refine Calls.mono (show Calls _ _ _ _ _ from kc) ?_; rintro e w2 ⟨rfl, hb2⟩)
          go_ret2
          exact ⟨rfl, below_ext hbe hb2⟩
        | true =>
          rw [Bool.true_and] at hans
          have HS := Lib.hid hans
          clear hans x0 hne
          go_wp2_with (go_at_call 124; refine Calls.mono (show Calls _ _ _ _ _ from kc) ?_; rintro e w2 ⟨rfl, hb2⟩)
          go_roundw
          case rel => exact ⟨k + 1, by go_num, by omega, below_ext hbe hb2, HS.out⟩
          case measure => simp [RowKit.intOf]; omega
    · obtain rfl : k = d.length := by omega
      rw [List.drop_of_length_le (Nat.le_refl _), List.all_nil] at hans
      subst hans
      have hq := HQ.out
      rw [if_neg (by simp)] at hq
      have kt := tooLong_any _ d wr (HH.out.below hbe)
      cases hlong : longB d with
      | true =>
        rw [hlong] at kt hq
        rw [if_pos rfl] at hq
        cases hq
        go_wp2_with (go_at_call 117; refine Calls.mono (show Calls _ _ _ _ _ from kt) ?_; rintro e w2 ⟨rfl, hb2⟩)
        go_ret2
        exact ⟨rfl, below_ext hbe hb2⟩
      | false =>
        rw [hlong] at kt hq
        rw [if_neg (by simp)] at hq
        go_wp2_with (go_at_call 117; refine Calls.mono (show Calls _ _ _ _ _ from kt) ?_; rintro e w2 ⟨rfl, hb2⟩)
        have hlg : d.length ≤ 20 ∧ ∀ x ∈ d, x.length ≤ 4 ∧ ∀ a ∈ x, a.2.length ≤ 1024 := by
          unfold longB at hlong
          simp only [Bool.or_eq_false_iff, decide_eq_false_iff_not, List.any_eq_false, Bool.or_eq_true, decide_eq_true_eq, not_or] at hlong
          exact ⟨by omega, fun x hx => ⟨by have := (hlong.2 x hx).1; omega, fun a ha => by have := (hlong.2 x hx).2; simp only [List.any_eq_true, decide_eq_true_eq, not_exists, not_and] at this; have := this a ha; omega⟩⟩
        have hsm : ∀ x ∈ d, ∀ a ∈ x, a.1.length ≤ 1000000 ∧ a.2.length ≤ 1000000 := by
          intro x hx a ha
          have h1 := List.all_eq_true.1 HA.out x hx
          unfold okR at h1
          rw [Bool.and_eq_true, List.all_eq_true] at h1
          have h2 := isTy_len (h1.2 a ha)
          have h3 := (hlg.2 x hx).2 a ha
          omega
        have HV := Lib.hid hsm
        clear hsm
        have HL := Lib.hid (fun x hx => (hlg.2 x hx).1 : ∀ x ∈ d, x.length ≤ 4)
        have hd20 := hlg.1
        have HQ2 := Lib.hid hq
        obtain ⟨i0, hi0, hz0, hz1, hz2⟩ := info_parts Tryz.infoStr
        have hbw2 := below_ext hbe hb2
        clear hq hlg hlong kt hbe hb2
        go_loopw [6, 31] (fun v i wr => P2Rel w d v i wr) (fun _ i _ => d.length - (RowKit.intOf i).toNat)
        case atStart => exact ⟨0, rfl, by omega, hbw2, World.ownsRow_nil _ _ _ _⟩
        case round =>
          clear hbw2 HQ
          obtain ⟨k, rfl, hk, hbe, hown⟩ := hrel
          by_cases hkl : k < d.length
          · obtain ⟨x, hx⟩ : ∃ x, d[k] = x := ⟨_, rfl⟩
            have hxk : d[k]? = some x := by rw [List.getElem?_eq_getElem hkl, hx]
            have hmem : x ∈ d := List.mem_of_getElem? hxk
            have hr0 : d ≠ [] := by intro e; rw [e] at hkl; simp at hkl
            obtain ⟨a2, cap2, e2, _, hcell⟩ := HH.out.below hbe
            obtain ⟨g, o, ha, hcc⟩ := hcell hr0
            cases e2
            subst ha
            obtain ⟨u, p1, hu⟩ := hcc k x hxk
            clear hcc hcell
            have hx4 := HL.out x hmem
            have HM := Lib.hid hmem
            have HX := Lib.hid hx
            have HU := Lib.hid hu
            obtain ⟨au, cu, hue, _, _⟩ := hu
            subst hue
            clear hx hxk hmem
            go_wp2_with fail
            generalize wr = wo at hbe hown p1 HU ⊢
            go_loopw [9, 37] (fun v i wq => P3Rel wo w x v i wq) (fun _ i _ => x.length - (RowKit.intOf i).toNat)
            case atStart => exact ⟨0, rfl, by omega, Below.refl _ _, hbe, World.ownsRow_nil _ _ _ _⟩
            case round =>
              obtain ⟨j, rfl, hj, hbq, hbw, hownq⟩ := hrel
              by_cases hjl : j < x.length
              · obtain ⟨y, hy⟩ : ∃ y, x[j] = y := ⟨_, rfl⟩
                have hyk : x[j]? = some y := by rw [List.getElem?_eq_getElem hjl, hy]
                have hymem : y ∈ x := List.mem_of_getElem? hyk
                have hx0 : x ≠ [] := by intro e; rw [e] at hjl; simp at hjl
                obtain ⟨a3, cap3, e3, _, hcell3⟩ := HU.out.below hbq
                obtain ⟨g3, o3, ha3, hcc3⟩ := hcell3 hx0
                cases e3
                subst ha3
                obtain ⟨p3, p4⟩ := hcc3 j y hyk
                rw [Nat.mul_comm] at p3 p4
                clear hcc3 hcell3
                obtain ⟨hy1, hy2⟩ := HV.out x HM.out y hymem
                have htk : (x.map avB).take (j + 1) = (x.map avB).take j ++ [avB y] := by
                  rw [List.take_add_one, List.getElem?_map, hyk]
                  rfl
                have hal : avB y = y.1 ++ [61] ++ writtenB y.2 := rfl
                have hbC := (Below.refl wr.heap.size wr).alloc (Nat.le_refl _) (.cells #[.string ⟨y.1.toArray⟩, .string ⟨y.2.toArray⟩] 146)
                have hbC2 := Below.drew hbC
                have hEq := hE.below hbw
                have kw := written_any y.2 (wr.alloc (.cells #[.string ⟨y.1.toArray⟩, .string ⟨y.2.toArray⟩] 146)).drew (by omega) (hEq.below hbC2)
                obtain ⟨Wr, hWr⟩ : ∃ Wr, writtenB y.2 = Wr := ⟨_, rfl⟩
                have hWl := writtenB_length y.2
                rw [hWr] at kw hal hWl
                have sz2 : ¬ (9223372036854775807 < y.1.length + 1 + Wr.length) := by omega
                have hcat : (⟨y.1.toArray⟩ ++ ⟨#[61]⟩ ++ ⟨Wr.toArray⟩ : ByteArray) = ⟨(avB y).toArray⟩ := by
                  rw [hal, show (⟨#[61]⟩ : ByteArray) = ⟨([61] : List UInt8).toArray⟩ from rfl, app_mk, app_mk]
                obtain ⟨T, hTe⟩ : ∃ T, avB y = T := ⟨_, rfl⟩
                rw [hTe] at hcat htk
                have HT := Lib.hid htk
                have hownD : (wr.alloc (.cells #[.string ⟨y.1.toArray⟩, .string ⟨y.2.toArray⟩] 146)).drew.ownsRow wo.heap.size 9 1 u9 j (sV ((x.map avB).take j)) := hownq.alloc _
                have hbqD := Below.drew (hbq.alloc hbq.size (.cells #[.string ⟨y.1.toArray⟩, .string ⟨y.2.toArray⟩] 146))
                have hbwD := Below.drew (hbw.alloc hbw.size (.cells #[.string ⟨y.1.toArray⟩, .string ⟨y.2.toArray⟩] 146))
                clear htk hal hWr hTe hy hyk hymem hbC hbC2 hEq
                have hTw : Two (wr.alloc (.cells #[.string ⟨y.1.toArray⟩, .string ⟨y.2.toArray⟩] 146)) wr.heap.size y.1 y.2 := alloc_at _ _ _ rfl
                go_upto_region 17 with fail
                generalize wr.alloc (.cells #[.string ⟨y.1.toArray⟩, .string ⟨y.2.toArray⟩] 146) = wC at hTw kw hownD hbqD hbwD ⊢
                obtain ⟨t0, t1, _, _⟩ := hTw.cells
                have sz1 : ¬ (9223372036854775807 < y.1.length + 1) := by omega
                have hltC : wr.heap.size < wC.drew.heap.size := (Array.getElem?_eq_some_iff.1 hTw).1
                have hoffC : u9.ownBlock ≠ some wr.heap.size := fun e => Nat.lt_irrefl _ (hownq.lt _ e).2
                have hszq := hbqD.size
                clear p3 p4
                go_region_held3 (fun w' => w'.cell? ⟨wr.heap.size, 0, none⟩ = some (.string ⟨y.1.toArray⟩) ∧ w'.cell? ⟨wr.heap.size, 1, none⟩ = some (.string ⟨y.2.toArray⟩))
                  (first | go_keep | exact ⟨s0, s1⟩ | exact ⟨r0, r1⟩)
                  (first
                    | (go_at_call 126; refine Calls.mono (show Calls _ _ _ _ _ from kw) ?_; rintro e w5 ⟨rfl, hb5⟩; have hown5 := own_below hownD hb5; have hbq5 := hbqD.trans (hb5.mono hbqD.size); have hbw5 := below_ext hbwD hb5; have hsz5 := hbq5.size; have s0 : w5.cell? ⟨wr.heap.size, 0, none⟩ = some (.string ⟨y.1.toArray⟩) := (hb5.cell hltC).trans t0; have s1 : w5.cell? ⟨wr.heap.size, 1, none⟩ = some (.string ⟨y.2.toArray⟩) := (hb5.cell hltC).trans t1; have hlt5 : wr.heap.size < w5.heap.size := Nat.lt_of_lt_of_le hltC hb5.size)
                    | (refine step_append_lies _ (by rfl) _ _ _ (by rfl) wo.heap.size 9 i0 _ 1 16 Tryz.underlying58 hi0 hz0 hz1 hz2 rfl (by omega) u9 j (sV ((x.map avB).take j)) (by rfl) (hown5.alloc _) ⟨w5.heap.size, 0, none⟩ 1 1 [.string ⟨T.toArray⟩] (by rfl) (by rfl) (cell_one_new _ _ _) (by simp [Value.oneCell']) (by omega) (by unfold maxLen; omega) (by omega) (by simp; omega) (w5.heap.size + 1) (by simp) ?_; intro g7 cap7 w7 ho7 hg7 hat7 hlt7; have r0 : w7.cell? ⟨wr.heap.size, 0, none⟩ = some (.string ⟨y.1.toArray⟩) := (World.cell?_of_block (hg7.block wr.heap.size (by simp; omega) (fun e => hoffC e.symm))).trans ((Below.cell ((Below.refl w5.heap.size w5).alloc (Nat.le_refl _) _) hlt5).trans s0); have r1 : w7.cell? ⟨wr.heap.size, 1, none⟩ = some (.string ⟨y.2.toArray⟩) := (World.cell?_of_block (hg7.block wr.heap.size (by simp; omega) (fun e => hoffC e.symm))).trans ((Below.cell ((Below.refl w5.heap.size w5).alloc (Nat.le_refl _) _) hlt5).trans s1)))
                go_wp2_with fail
                go_roundw
                case rel =>
                  refine ⟨j + 1, by go_num, by omega, ?_, ?_, ?_⟩
                  · exact (hbq5.alloc hsz5 _).grown hg7 (by simp; omega) (fun b hb => (hown5.lt b hb).1)
                  · exact (hbw5.alloc hbw5.size _).grown hg7 (by have := hbw5.size; simp; omega) (fun b hb => by have := (hown5.lt b hb).1; have := hbe.size; omega)
                  · rw [HT.out, sV_append]
                    exact ho7
                case measure => simp [RowKit.intOf]; omega
              · obtain rfl : j = x.length := by omega
                have hxl : ∀ l ∈ x.map avB, l.length ≤ 4000002 := by
                  intro l hl
                  obtain ⟨a, ha, rfl⟩ := List.mem_map.1 hl
                  obtain ⟨h2, h3⟩ := HV.out x HM.out a ha
                  exact avB_length a h2 h3
                have hjl2 := joinB_length 43 4000002 (x.map avB) hxl
                rw [List.length_map] at hjl2
                rw [List.take_of_length_le (by rw [List.length_map]; exact Nat.le_refl _)] at hownq
                have kj := Join_own wo.heap.size u9 (x.map avB) 43 wr (by rw [List.length_map]; exact hownq) (by rw [List.length_map]; omega) (by have : x.length * 4000003 ≤ 4 * 4000003 := Nat.mul_le_mul_right _ hx4; omega)
                have hownO : wr.ownsRow w.heap.size 9 1 u6 k (sV ((d.map partB).take k)) := own_below hown hbq
                obtain ⟨T, hTe⟩ : ∃ T, joinB 43 (x.map avB) = T := ⟨_, rfl⟩
                rw [hTe] at kj
                have htk : (d.map partB).take (k + 1) = (d.map partB).take k ++ [T] := by
                  rw [List.take_add_one, List.getElem?_map, List.getElem?_eq_getElem hkl, HX.out, ← hTe]
                  rfl
                have HT := Lib.hid htk
                clear htk hTe hjl2 hxl hownq
                go_wp2_with (first | (go_at_call 127; refine Calls.mono (show Calls _ _ _ _ _ from kj) ?_; rintro e w5 ⟨rfl, hb5⟩; have hown5 := own_below hownO hb5; have hbw5 := below_ext hbw hb5; have hsz5 := hbw5.size) | (at_builtin; refine wpList_append_own _ rfl (.tmp 52) (.tmp 55) 58 rfl w.heap.size 9 i0 (.string ⟨#[]⟩) 1 16 Tryz.underlying58 hi0 hz0 hz1 hz2 rfl (by decide) u6 k (sV ((d.map partB).take k)) rfl (hown5.alloc _) ⟨w5.heap.size, 0, none⟩ 1 1 [.string ⟨(T).toArray⟩] rfl rfl (cell_one_new _ _ _) ?d2 ?d3 ?d4 ?d5 ?_))
                case d2 => intro u hu; simp at hu; subst hu; rfl
                case d3 => unfold maxLen; omega
                case d4 => omega
                case d5 => simp; omega
                intro v' w7 ho7 hg7 _
                go_wp2_with fail
                go_roundw
                case rel =>
                  refine ⟨k + 1, by go_num, by omega, ?_, ?_⟩
                  · exact (hbw5.alloc hsz5 _).grown hg7 (by simp; omega) (fun b hb => (hown5.lt b hb).1)
                  · rw [HT.out, sV_append]
                    exact ho7
                case measure => simp [RowKit.intOf]; omega
          · obtain rfl : k = d.length := by omega
            rw [List.take_of_length_le (by rw [List.length_map]; exact Nat.le_refl _)] at hown
            have hpl : ∀ l ∈ d.map partB, l.length ≤ 16000012 := by
              intro l hl
              obtain ⟨x, hx, rfl⟩ := List.mem_map.1 hl
              have hx4 := HL.out x hx
              have := joinB_length 43 4000002 (x.map avB) (fun l hl => by
                obtain ⟨a, ha, rfl⟩ := List.mem_map.1 hl
                obtain ⟨h2, h3⟩ := HV.out x hx a ha
                exact avB_length a h2 h3)
              rw [List.length_map] at this
              have : x.length * 4000003 ≤ 4 * 4000003 := Nat.mul_le_mul_right _ hx4
              unfold partB
              omega
            have hjl := joinB_length 44 16000012 (d.map partB) hpl
            rw [List.length_map] at hjl
            have hj20 : d.length * 16000013 ≤ 20 * 16000013 := Nat.mul_le_mul_right _ hd20
            have kj := Join_own w.heap.size u6 (d.map partB) 44 wr (by rw [List.length_map]; exact hown) (by rw [List.length_map]; omega) (by omega)
            have hq := HQ2.out
            obtain ⟨T, hTe⟩ : ∃ T, joinB 44 (d.map partB) = T := ⟨_, rfl⟩
            rw [hTe] at kj hq hjl
            clear hTe hpl
            by_cases hT : 65536 < T.length
            · rw [if_pos hT] at hq
              have q5 : decide ((65536 : Int) < (T.length : Int)) = true := decide_eq_true (by omega)
              cases hq
              go_wp2_with (go_at_call 127; refine Calls.mono (show Calls _ _ _ _ _ from kj) ?_; rintro e w5 ⟨rfl, hb5⟩)
              go_ret2
              exact ⟨rfl, below_ext hbe hb5⟩
            · rw [if_neg hT] at hq
              have q5 : decide ((65536 : Int) < (T.length : Int)) = false := decide_eq_false (by omega)
              cases hq
              go_wp2_with (go_at_call 127; refine Calls.mono (show Calls _ _ _ _ _ from kj) ?_; rintro e w5 ⟨rfl, hb5⟩)
              go_ret2
              exact ⟨rfl, below_ext hbe hb5⟩
end Go.Proofs.YtegigcneimjimaaGreatDoor
