/- RfG. -/
import Derived.Deep.CutBlock
import Derived.Deep.DeepCutAuto
import Derived.Deep.CutRange
import Derived.Test.YtegigcneimjimaaGreatDoorU15
import Derived.Test.YtegigcneimjimaaGreatDoorU20
namespace Go.Proofs.YtegigcneimjimaaGreatDoor
open Go.RowKit Go.Lib
set_option maxRecDepth 100000
set_option maxHeartbeats 16000000
def PB (w : World) (c : Chg) (vA vM v : Value) (l : List UInt8) (wr : World) : Prop :=
  OwnT wr (w.heap.size + 1) 5 v l ∧ Below w.heap.size w wr ∧ wr.heap[w.heap.size]? = some (.cells #[.string ⟨c.time.toArray⟩, .string ⟨c.who.toArray⟩, .string ⟨c.dn.toArray⟩, .int .i64 c.kind, vA, vM, .string ⟨c.newRdn.toArray⟩, .string ⟨c.newSup.toArray⟩, .bool c.delOld, .bool c.hasSup] 47 (0, 0))
theorem rest_all {c : Chg} (h : onlyC c = true) : restC c = attrB c.attrs ++ modB c.mods ++ (if c.kind = 3 then moveB c else []) := by
  unfold onlyC at h
  simp only [Bool.and_eq_true, Bool.or_eq_true, decide_eq_true_eq, List.isEmpty_iff] at h
  obtain ⟨⟨⟨⟨⟨h0, h3⟩, hA⟩, hM⟩, _⟩, _⟩ := h
  unfold restC
  by_cases k0 : c.kind = 0
  · have hm : c.mods = [] := by rcases hM with h | h; omega; exact h
    rw [if_pos k0, hm, if_neg (by omega)]
    simp [modB]
  · have ha : c.attrs = [] := by rcases hA with h | h; omega; exact h
    rw [if_neg k0, ha]
    by_cases k2 : c.kind = 2
    · rw [if_pos k2, if_neg (by omega)]
      simp [attrB]
    · have hm : c.mods = [] := by rcases hM with h | h; omega; exact h
      rw [if_neg k2, hm]
      simp [attrB, modB]
theorem PB.next {w : World} {c : Chg} {vA vM v v7 : Value} {l s : List UInt8} {wd w5 w7 : World} (h : PB w c vA vM v l wd) (hb : Below wd.heap.size wd w5) (ho : OwnT w7 (w.heap.size + 1) 5 v7 (l ++ s)) (hg : w5.grownBy w7 v.ownBlock) : PB w c vA vM v7 (l ++ s) w7 := by
  obtain ⟨h1, h2, h3⟩ := h
  have hlt := (Array.getElem?_eq_some_iff.1 h3).1
  have hs := hb.size
  have hrow : ∀ k, v.ownBlock = some k → w.heap.size + 1 ≤ k := fun k hk => (h1.lt k hk).1
  refine ⟨ho, (below_ext h2 hb).grown hg (by omega) (fun k hk => by have := hrow k hk; omega), ?_⟩
  rw [hg.block w.heap.size (by omega) (fun e => by have := hrow _ e.symm; omega), hb.block _ hlt]
  exact h3
theorem PB.on {w : World} {c : Chg} {vA vM v : Value} {l : List UInt8} {wd w5 : World} (h : PB w c vA vM v l wd) (hb : Below wd.heap.size wd w5) : PB w c vA vM v l w5 :=
  ⟨h.1.below hb, below_ext h.2.1 hb, (hb.block _ (Array.getElem?_eq_some_iff.1 h.2.2).1).trans h.2.2⟩
theorem ops_fo (k : Int) (h0 : 0 ≤ k) (h2 : k ≤ 2) (W : World) :
    Calls Tryz.prog 149 #[] W fun e w' => ∃ g, e = .returned (.slice (some ⟨g, 0, none⟩) 3 3) ∧ Below W.heap.size W w' ∧ w'.cell? ⟨g, k.toNat, none⟩ = some (.string ⟨(opW k).toArray⟩) := by
  refine (ops_any W).mono fun e w' h => ?_
  obtain ⟨he, hw⟩ := h
  refine ⟨W.heap.size, he, by rw [hw]; exact (Below.refl _ _).alloc (Nat.le_refl _) _, ?_⟩
  have hk : w'.heap[W.heap.size]? = some (.cells #[.string ⟨#[97, 100, 100]⟩, .string ⟨#[100, 101, 108, 101, 116, 101]⟩, .string ⟨#[114, 101, 112, 108, 97, 99, 101]⟩] 9 (0, 0)) := by rw [hw]; exact alloc_at _ _ _ rfl
  rw [Lib.cell_of_heap hk]
  have : k = 0 ∨ k = 1 ∨ k = 2 := by omega
  rcases this with h | h | h <;> rw [h] <;> rfl
theorem moveB_parts (c : Chg) : moveB c = lineB [110, 101, 119, 114, 100, 110] c.newRdn ++ lineB [100, 101, 108, 101, 116, 101, 111, 108, 100, 114, 100, 110] (if c.delOld then [49] else [48]) ++ (if c.hasSup then lineB [110, 101, 119, 115, 117, 112, 101, 114, 105, 111, 114] c.newSup else []) := rfl
def Fo (N : Nat) (c : Chg) (W : World) : Prop :=
  W.cell? ⟨N, 0, none⟩ = some (.string ⟨c.time.toArray⟩) ∧ W.cell? ⟨N, 1, none⟩ = some (.string ⟨c.who.toArray⟩) ∧ W.cell? ⟨N, 2, none⟩ = some (.string ⟨c.dn.toArray⟩) ∧ W.cell? ⟨N, 3, none⟩ = some (.int .i64 c.kind)
theorem Fo.below {N : Nat} {c : Chg} {W W' : World} (h : Fo N c W) (hN : N < W.heap.size) (hb : Below W.heap.size W W') : Fo N c W' :=
  ⟨(hb.cell (p := ⟨N, 0, none⟩) hN).trans h.1, (hb.cell (p := ⟨N, 1, none⟩) hN).trans h.2.1, (hb.cell (p := ⟨N, 2, none⟩) hN).trans h.2.2.1, (hb.cell (p := ⟨N, 3, none⟩) hN).trans h.2.2.2⟩
theorem rline_fo (N : Nat) (c : Chg) (name v : List UInt8) (X : Option Obj) (w0 W : World) (hb : Below w0.heap.size w0 W) (hN : N < W.heap.size) (hX : W.heap[N]? = X) (hc : Fo N c W) (hn : name.length ≤ 1099511627776) (hv : v.length ≤ 1099511627776) :
    Calls Tryz.prog 153 #[.string ⟨name.toArray⟩, .string ⟨v.toArray⟩] W fun e w' => e = .returned (.string ⟨(lineB name v).toArray⟩) ∧ Below w0.heap.size w0 w' ∧ N < w'.heap.size ∧ w'.heap[N]? = X ∧
      w'.cell? ⟨N, 0, none⟩ = some (.string ⟨c.time.toArray⟩) ∧ w'.cell? ⟨N, 1, none⟩ = some (.string ⟨c.who.toArray⟩) ∧ w'.cell? ⟨N, 2, none⟩ = some (.string ⟨c.dn.toArray⟩) ∧ w'.cell? ⟨N, 3, none⟩ = some (.int .i64 c.kind) :=
  (rline_any name v W hn hv).mono fun e w' h => ⟨h.1, below_ext hb h.2, by have := h.2.size; omega, (h.2.block N hN).trans hX, hc.below hN h.2⟩
theorem kinds_fo (N : Nat) (c : Chg) (X : Option Obj) (w0 W : World) (hb : Below w0.heap.size w0 W) (hN : N < W.heap.size) (hX : W.heap[N]? = X) (hc : Fo N c W) :
    Calls Tryz.prog 148 #[] W fun e w' => ∃ g, e = .returned (.slice (some ⟨g, 0, none⟩) 4 4) ∧ Below w0.heap.size w0 w' ∧ N < w'.heap.size ∧ w'.heap[N]? = X ∧
      w'.cell? ⟨N, 0, none⟩ = some (.string ⟨c.time.toArray⟩) ∧ w'.cell? ⟨N, 1, none⟩ = some (.string ⟨c.who.toArray⟩) ∧ w'.cell? ⟨N, 2, none⟩ = some (.string ⟨c.dn.toArray⟩) ∧ w'.cell? ⟨N, 3, none⟩ = some (.int .i64 c.kind) ∧
      (0 ≤ c.kind → c.kind ≤ 3 → w'.cell? ⟨g, c.kind.toNat, none⟩ = some (.string ⟨(kindW c.kind).toArray⟩)) := by
  refine (kinds_any W).mono fun e w' h => ?_
  obtain ⟨he, hw⟩ := h
  have hbw : Below W.heap.size W w' := by rw [hw]; exact (Below.refl _ _).alloc (Nat.le_refl _) _
  obtain ⟨q0, q1, q2, q3⟩ := hc.below hN hbw
  refine ⟨W.heap.size, he, below_ext hb hbw, by have := hbw.size; omega, (hbw.block N hN).trans hX, q0, q1, q2, q3, fun h0 h3 => ?_⟩
  have hk : w'.heap[W.heap.size]? = some (.cells #[.string ⟨#[97, 100, 100]⟩, .string ⟨#[100, 101, 108, 101, 116, 101]⟩, .string ⟨#[109, 111, 100, 105, 102, 121]⟩, .string ⟨#[109, 111, 100, 114, 100, 110]⟩] 9 (0, 0)) := by rw [hw]; exact alloc_at _ _ _ rfl
  rw [Lib.cell_of_heap hk]
  have : c.kind = 0 ∨ c.kind = 1 ∨ c.kind = 2 ∨ c.kind = 3 := by omega
  rcases this with h | h | h | h <;> rw [h] <;> rfl
theorem RPrint_any (c : Chg) (vA vM : Value) (w : World) (hA : AttrsAt w vA c.attrs) (hM : ModsAt w vM c.mods) (hS : Small c) :
    Calls Tryz.prog 35 #[.agg (chgA c vA vM)] w fun e w' => e = .returned (.tuple #[.string ⟨(printC c).1.toArray⟩, .int .i64 (printC c).2]) ∧ Below w.heap.size w w' := by
  obtain ⟨s, n, hsn⟩ : ∃ s n, printC c = (s, n) := ⟨_, _, rfl⟩
  rw [hsn]
  have HSN := Lib.hid hsn
  clear hsn
  obtain ⟨PR, hPR⟩ : ∃ P : Ending → World → Prop, (fun e w' => e = .returned (.tuple #[.string ⟨(s, n).1.toArray⟩, .int .i64 (s, n).2]) ∧ Below w.heap.size w w') = P := ⟨_, rfl⟩
  rw [hPR]
  have HPR := Lib.hid hPR
  clear hPR
  have HA := Lib.hid hA
  have HM := Lib.hid hM
  have HS := Lib.hid hS
  obtain ⟨aA, cA, hvA, hcA, _⟩ := id hA
  obtain ⟨aM, cM, hvM, hcM, _⟩ := id hM
  have hb1 : Below w.heap.size w (w.alloc (.cells (chgA c vA vM) 47)) := (Below.refl _ _).alloc (Nat.le_refl _) _
  have hk1 : (w.alloc (.cells (chgA c vA vM) 47)).heap[w.heap.size]? = some (.cells (chgA c vA vM) 47 (0, 0)) := alloc_at _ _ _ rfl
  have k1 := fun W => ronly_any c vA vM aA aM cA cM hvA hvM W
  have k2 := fun W (hW : Below w.heap.size w W) => rattrs_any _ c.attrs W (HA.out.below hW) (Nat.le_trans HS.out.2.1 (by decide)) (fun x hx => Nat.le_trans (HS.out.2.2.2.1 x hx).1 (by decide)) (fun x hx => Nat.le_trans (HS.out.2.2.2.1 x hx).2.1 (by decide))
  have k3 := fun W (hW : Below w.heap.size w W) => rmods_any _ c.mods W (HM.out.below hW) (Nat.le_trans HS.out.2.2.1 (by decide)) (fun x hx => Nat.le_trans (HS.out.2.2.2.2.1 x hx).1 (by decide))
  subst hvA hvM
  obtain ⟨⟨c0, c1, c2, c3, c4, c5, c6, c7, c8, c9⟩, _⟩ := ten_cells hk1
  obtain ⟨oc, hoc⟩ : ∃ b, onlyC c = b := ⟨_, rfl⟩
  obtain ⟨ac, hac⟩ : ∃ b, attrsOk none c.attrs = b := ⟨_, rfl⟩
  obtain ⟨mc, hmc⟩ : ∃ b, modsOk c.mods = b := ⟨_, rfl⟩
  simp only [hoc] at k1
  simp only [hac] at k2
  simp only [hmc] at k3
  have hrc : rightC c = (oc && ac && mc) := by unfold rightC; rw [hoc, hac, hmc]
  have hno : (oc && ac && mc) = false → s = [] ∧ n = 110 := fun h => by
    have h2 := HSN.out
    unfold printC at h2
    rw [hrc, h, if_pos rfl] at h2
    simp only [Prod.mk.injEq] at h2
    exact ⟨h2.1.symm, h2.2.symm⟩
  have HRC := Lib.hid hrc
  have HNO := Lib.hid hno
  clear hoc hac hmc hrc hno hA hM hS
  unfold chgA at c0 c1 c2 c3 c4 c5 c6 c7 c8 c9 hb1 hk1 k1 ⊢
  obtain ⟨i0, hi0, hz0, hz1, hz2⟩ := info_parts Tryz.infoByte
  go_enter Tryz.func35, Tryz.ntmps35
  go_wp2_with fail
  refine Calls.mono (show Calls _ _ _ _ _ from k1 _) ?_
  rintro e w3 ⟨rfl, hb3⟩
  have hb3w := below_ext hb1 hb3
  have hk3 := (hb3.block _ (Array.getElem?_eq_some_iff.1 hk1).1).trans hk1
  clear c0 c1 c2 c3 c4 c5 c6 c7 c8 c9 hk1
  obtain ⟨⟨c0, c1, c2, c3, c4, c5, c6, c7, c8, c9⟩, _⟩ := ten_cells hk3
  cases oc
  · obtain ⟨rfl, rfl⟩ := HNO.out rfl
    go_wp2_with fail
    show PR (.returned (.tuple #[.string ⟨#[]⟩, .int .i64 110])) w3
    rw [← HPR.out]
    exact ⟨rfl, hb3w⟩
  · go_wp2_with fail
    refine Calls.mono (show Calls _ _ _ _ _ from k2 _ hb3w) ?_
    rintro e w4 ⟨rfl, m4, rfl⟩
    cases ac
    · obtain ⟨rfl, rfl⟩ := HNO.out rfl
      go_wp2_with fail
      show PR (.returned (.tuple #[.string ⟨#[]⟩, .int .i64 110])) _
      rw [← HPR.out]
      exact ⟨rfl, below_drwN hb3w _⟩
    · go_wp2_with fail
      refine Calls.mono (show Calls _ _ _ _ _ from k3 _ (below_drwN hb3w _)) ?_
      rintro e w5 ⟨rfl, m5, rfl⟩
      cases mc
      · obtain ⟨rfl, rfl⟩ := HNO.out rfl
        go_wp2_with fail
        show PR (.returned (.tuple #[.string ⟨#[]⟩, .int .i64 110])) _
        rw [← HPR.out]
        exact ⟨rfl, below_drwN hb3w _⟩
      · have hrT := HRC.out
        have honly : 0 ≤ c.kind ∧ c.kind ≤ 3 := by
          unfold rightC onlyC at hrT
          simp only [Bool.and_true, Bool.and_eq_true, decide_eq_true_eq] at hrT
          exact ⟨hrT.1.1.1.1.1.1.1, hrT.1.1.1.1.1.1.2⟩
        obtain ⟨hk0, hk3'⟩ := honly
        have hkn : ((c.kind.toNat : Nat) : Int) = c.kind := by omega
        have hi1 : c.kind < 4 := by omega
        have hsm := HS.out
        have z0 : c.time.length ≤ 1099511627776 := Nat.le_trans hsm.1.1 (by decide)
        have z1 : c.who.length ≤ 1099511627776 := Nat.le_trans hsm.1.2.1 (by decide)
        have z2 : c.dn.length ≤ 1099511627776 := Nat.le_trans hsm.1.2.2.1 (by decide)
        have z3 : (kindW c.kind).length ≤ 1099511627776 := by unfold kindW; split <;> (try split) <;> (try split) <;> decide
        obtain ⟨A0, hA0⟩ : ∃ x, lineB [116, 105, 109, 101] c.time = x := ⟨_, rfl⟩
        obtain ⟨A1, hA1⟩ : ∃ x, lineB [119, 104, 111] c.who = x := ⟨_, rfl⟩
        obtain ⟨A2, hA2⟩ : ∃ x, lineB [100, 110] c.dn = x := ⟨_, rfl⟩
        obtain ⟨A3, hA3⟩ : ∃ x, lineB [99, 104, 97, 110, 103, 101, 116, 121, 112, 101] (kindW c.kind) = x := ⟨_, rfl⟩
        have hhead : headC c = A0 ++ A1 ++ A2 ++ A3 := by unfold headC; rw [hA0, hA1, hA2, hA3]
        have l0 := lineB_up [116, 105, 109, 101] c.time
        have l1 := lineB_up [119, 104, 111] c.who
        have l2 := lineB_up [100, 110] c.dn
        have l3 := lineB_up [99, 104, 97, 110, 103, 101, 116, 121, 112, 101] (kindW c.kind)
        rw [hA0] at l0
        rw [hA1] at l1
        rw [hA2] at l2
        rw [hA3] at l3
        simp only [List.length_cons, List.length_nil] at l0 l1 l2 l3
        have kA0 := fun X W hb hN hX hc => rline_fo w.heap.size c [116, 105, 109, 101] c.time X w W hb hN hX hc (by decide) z0
        have kA1 := fun X W hb hN hX hc => rline_fo w.heap.size c [119, 104, 111] c.who X w W hb hN hX hc (by decide) z1
        have kA2 := fun X W hb hN hX hc => rline_fo w.heap.size c [100, 110] c.dn X w W hb hN hX hc (by decide) z2
        have kA3 := fun X W hb hN hX hc => rline_fo w.heap.size c [99, 104, 97, 110, 103, 101, 116, 121, 112, 101] (kindW c.kind) X w W hb hN hX hc (by decide) z3
        have kK := fun X W hb hN hX hc => kinds_fo w.heap.size c X w W hb hN hX hc
        simp only [hA0] at kA0
        simp only [hA1] at kA1
        simp only [hA2] at kA2
        simp only [hA3] at kA3
        have HHEAD := Lib.hid hhead
        have happ : (⟨A0.toArray⟩ ++ ⟨A1.toArray⟩ ++ ⟨A2.toArray⟩ ++ ⟨A3.toArray⟩ : ByteArray) = ⟨(A0 ++ A1 ++ A2 ++ A3).toArray⟩ := by rw [app_mk, app_mk, app_mk]
        have hN6 : w.heap.size < w3.heap.size := (Array.getElem?_eq_some_iff.1 hk3).1
        clear hrT hhead hA0 hA1 hA2 hA3 hsm
        have sz1 : ¬ (9223372036854775807 < A0.length + A1.length) := by omega
        have sz2 : ¬ (9223372036854775807 < A0.length + A1.length + A2.length) := by omega
        have sz3 : ¬ (9223372036854775807 < A0.length + (A1.length + A2.length)) := by omega
        have sz4 : ¬ (9223372036854775807 < A0.length + A1.length + A2.length + A3.length) := by omega
        have sz5 : ¬ (9223372036854775807 < A0.length + (A1.length + (A2.length + A3.length))) := by omega
        have sz6 : ¬ (9223372036854775807 < A0.length + (A1.length + A2.length) + A3.length) := by omega
        have hcv := fun (W : World) (s : ByteArray) => run_bytes_of_string (P := Tryz.prog) W 9 153 5 s Tryz.underlying9 Tryz.underlying153 Tryz.underlying5
        go_wp2_with fail
        have hb6 := below_drwN hb3w (m4 + m5)
        have hk6 : (w3.drewN (m4 + m5)).heap[w.heap.size]? = some (.cells #[.string ⟨c.time.toArray⟩, .string ⟨c.who.toArray⟩, .string ⟨c.dn.toArray⟩, .int .i64 c.kind, .slice aA c.attrs.length cA, .slice aM c.mods.length cM, .string ⟨c.newRdn.toArray⟩, .string ⟨c.newSup.toArray⟩, .bool c.delOld, .bool c.hasSup] 47 (0, 0)) := hk3
        have hN66 : w.heap.size < (w3.drewN (m4 + m5)).heap.size := hN6
        have d0 : (w3.drewN (m4 + m5)).cell? ⟨w.heap.size, 0, none⟩ = some (.string ⟨c.time.toArray⟩) := c0
        have d1 : (w3.drewN (m4 + m5)).cell? ⟨w.heap.size, 1, none⟩ = some (.string ⟨c.who.toArray⟩) := c1
        have d2 : (w3.drewN (m4 + m5)).cell? ⟨w.heap.size, 2, none⟩ = some (.string ⟨c.dn.toArray⟩) := c2
        have d3 : (w3.drewN (m4 + m5)).cell? ⟨w.heap.size, 3, none⟩ = some (.int .i64 c.kind) := c3
        clear c0 c1 c2 c3 c4 c5 c6 c7 c8 c9 hk3 hb3 hb3w
        generalize w3.drewN (m4 + m5) = w6 at hb6 hk6 hN66 d0 d1 d2 d3 ⊢
        go_cut [4] from 25 to 43 (fun s4 wx => OwnT wx (w.heap.size + 1) 5 s4 (headC c) ∧ Below w.heap.size w wx ∧ wx.heap[w.heap.size]? = some (.cells #[.string ⟨c.time.toArray⟩, .string ⟨c.who.toArray⟩, .string ⟨c.dn.toArray⟩, .int .i64 c.kind, .slice aA c.attrs.length cA, .slice aM c.mods.length cM, .string ⟨c.newRdn.toArray⟩, .string ⟨c.newSup.toArray⟩, .bool c.delOld, .bool c.hasSup] 47 (0, 0)))
        case first =>
          refine wp_region_held (S := (fun w' => w'.cell? ⟨w.heap.size, 0, none⟩ = some (.string ⟨c.time.toArray⟩) ∧ w'.cell? ⟨w.heap.size, 1, none⟩ = some (.string ⟨c.who.toArray⟩) ∧ w'.cell? ⟨w.heap.size, 2, none⟩ = some (.string ⟨c.dn.toArray⟩) ∧ w'.cell? ⟨w.heap.size, 3, none⟩ = some (.int .i64 c.kind))) (by kernel_rfl) ?_
          change wpAnyH _ _ _ _ _ _ _ _ w6.drew
          refine anyH_take 0 (.pointer (some ⟨w.heap.size, 0, none⟩)) rfl (by kernel_rfl) (by kernel_rfl) (by kernel_rfl) (fun _ _ _ h => h) (by rfl) (fun w' hS => by obtain ⟨q0, q1, q2, q3⟩ := hS; go_simp) ⟨d0, d1, d2, d3⟩ (fun K hK => ?_); go_simp; refine hK _ _ ?_; clear hK K
          refine anyH_take 1 (.string ⟨c.time.toArray⟩) rfl (by kernel_rfl) (by kernel_rfl) (by kernel_rfl) (fun _ _ _ h => h) (by rfl) (fun w' hS => by obtain ⟨q0, q1, q2, q3⟩ := hS; go_simp) ⟨d0, d1, d2, d3⟩ (fun K hK => ?_); go_simp; refine hK _ _ ?_; clear hK K
          refine anyH_take 3 (.pointer (some ⟨w.heap.size, 1, none⟩)) rfl (by kernel_rfl) (by kernel_rfl) (by kernel_rfl) (fun _ _ _ h => h) (by rfl) (fun w' hS => by obtain ⟨q0, q1, q2, q3⟩ := hS; go_simp) ⟨d0, d1, d2, d3⟩ (fun K hK => ?_); go_simp; refine hK _ _ ?_; clear hK K
          refine anyH_take 4 (.string ⟨c.who.toArray⟩) rfl (by kernel_rfl) (by kernel_rfl) (by kernel_rfl) (fun _ _ _ h => h) (by rfl) (fun w' hS => by obtain ⟨q0, q1, q2, q3⟩ := hS; go_simp) ⟨d0, d1, d2, d3⟩ (fun K hK => ?_); go_simp; refine hK _ _ ?_; clear hK K
          refine anyH_take 7 (.pointer (some ⟨w.heap.size, 2, none⟩)) rfl (by kernel_rfl) (by kernel_rfl) (by kernel_rfl) (fun _ _ _ h => h) (by rfl) (fun w' hS => by obtain ⟨q0, q1, q2, q3⟩ := hS; go_simp) ⟨d0, d1, d2, d3⟩ (fun K hK => ?_); go_simp; refine hK _ _ ?_; clear hK K
          refine anyH_take 8 (.string ⟨c.dn.toArray⟩) rfl (by kernel_rfl) (by kernel_rfl) (by kernel_rfl) (fun _ _ _ h => h) (by rfl) (fun w' hS => by obtain ⟨q0, q1, q2, q3⟩ := hS; go_simp) ⟨d0, d1, d2, d3⟩ (fun K hK => ?_); go_simp; refine hK _ _ ?_; clear hK K
          refine anyH_take 12 (.pointer (some ⟨w.heap.size, 3, none⟩)) rfl (by kernel_rfl) (by kernel_rfl) (by kernel_rfl) (fun _ _ _ h => h) (by rfl) (fun w' hS => by obtain ⟨q0, q1, q2, q3⟩ := hS; go_simp) ⟨d0, d1, d2, d3⟩ (fun K hK => ?_); go_simp; refine hK _ _ ?_; clear hK K
          refine anyH_take 13 (.int .i64 c.kind) rfl (by kernel_rfl) (by kernel_rfl) (by kernel_rfl) (fun _ _ _ h => h) (by rfl) (fun w' hS => by obtain ⟨q0, q1, q2, q3⟩ := hS; go_simp) ⟨d0, d1, d2, d3⟩ (fun K hK => ?_); go_simp; refine hK _ _ ?_; clear hK K
          refine anyH_one 2 (by kernel_rfl) rfl (by rfl) (fun K hK => ?_); go_simp; go_wp2_with fail
          refine Calls.mono (show Calls _ _ _ _ _ from kA0 _ _ (Below.drew hb6) hN66 hk6 ⟨d0, d1, d2, d3⟩) ?_
          rintro e w7 ⟨rfl, hb7, hN7, hX7, d0, d1, d2, d3⟩
          refine hK _ _ ⟨d0, d1, d2, d3⟩ ?_; clear hK K
          refine anyH_one 5 (by kernel_rfl) rfl (by rfl) (fun K hK => ?_); go_simp; go_wp2_with fail
          refine Calls.mono (show Calls _ _ _ _ _ from kA1 _ _ hb7 hN7 hX7 ⟨d0, d1, d2, d3⟩) ?_
          rintro e w8 ⟨rfl, hb8, hN8, hX8, d0, d1, d2, d3⟩
          refine hK _ _ ⟨d0, d1, d2, d3⟩ ?_; clear hK K
          refine anyH_take 6 (.string ⟨(A0 ++ A1).toArray⟩) rfl (by kernel_rfl) (by kernel_rfl) (by kernel_rfl) (fun _ _ _ h => h) (by rfl) (fun w' hS => by obtain ⟨q0, q1, q2, q3⟩ := hS; go_simp; rw [app_mk]) ⟨d0, d1, d2, d3⟩ (fun K hK => ?_); go_simp; refine hK _ _ ?_; clear hK K
          refine anyH_one 9 (by kernel_rfl) rfl (by rfl) (fun K hK => ?_); go_simp; go_wp2_with fail
          refine Calls.mono (show Calls _ _ _ _ _ from kA2 _ _ hb8 hN8 hX8 ⟨d0, d1, d2, d3⟩) ?_
          rintro e w9 ⟨rfl, hb9, hN9, hX9, d0, d1, d2, d3⟩
          refine hK _ _ ⟨d0, d1, d2, d3⟩ ?_; clear hK K
          refine anyH_take 10 (.string ⟨(A0 ++ (A1 ++ A2)).toArray⟩) rfl (by kernel_rfl) (by kernel_rfl) (by kernel_rfl) (fun _ _ _ h => h) (by rfl) (fun w' hS => by obtain ⟨q0, q1, q2, q3⟩ := hS; go_simp; rw [app_mk, List.append_assoc]) ⟨d0, d1, d2, d3⟩ (fun K hK => ?_); go_simp; refine hK _ _ ?_; clear hK K
          refine anyH_one 11 (by kernel_rfl) rfl (by rfl) (fun K hK => ?_); go_simp; go_wp2_with fail
          refine Calls.mono (show Calls _ _ _ _ _ from kK _ _ hb9 hN9 hX9 ⟨d0, d1, d2, d3⟩) ?_
          rintro e w10 ⟨gk, rfl, hb10, hN10, hX10, d0, d1, d2, d3, dk⟩; have dk := dk hk0 hk3'
          refine hK _ _ ⟨d0, d1, d2, d3⟩ ?_; clear hK K
          refine anyH_one 14 (by kernel_rfl) rfl (by rfl) (fun K hK => ?_); go_simp; refine hK _ _ ⟨d0, d1, d2, d3⟩ ?_; clear hK K
          refine anyH_one 15 (by kernel_rfl) rfl (by rfl) (fun K hK => ?_); go_simp; refine hK _ _ ⟨d0, d1, d2, d3⟩ ?_; clear hK K
          refine anyH_one 16 (by kernel_rfl) rfl (by rfl) (fun K hK => ?_); go_simp; go_wp2_with fail
          refine Calls.mono (show Calls _ _ _ _ _ from kA3 _ _ hb10 hN10 hX10 ⟨d0, d1, d2, d3⟩) ?_
          rintro e w11 ⟨rfl, hb11, hN11, hX11, d0, d1, d2, d3⟩
          refine hK _ _ ⟨d0, d1, d2, d3⟩ ?_; clear hK K
          refine anyH_one 17 (by kernel_rfl) rfl (by rfl) (fun K hK => ?_); go_simp; refine hK _ _ ⟨d0, d1, d2, d3⟩ ?_; clear hK K
          simp only [app_mk, List.append_assoc]
          refine anyH_one 18 (by kernel_rfl) rfl (by rfl) (fun K hK => ?_); go_simp; refine hK _ _ ⟨Lib.cell?_alloc_some _ d0, Lib.cell?_alloc_some _ d1, Lib.cell?_alloc_some _ d2, Lib.cell?_alloc_some _ d3⟩ ?_; clear hK K
          refine anyH_one 19 (by kernel_rfl) rfl (by rfl) (fun K hK => ?_); go_simp; refine hK _ _ ⟨Lib.cell?_alloc_some _ d0, Lib.cell?_alloc_some _ d1, Lib.cell?_alloc_some _ d2, Lib.cell?_alloc_some _ d3⟩ ?_; clear hK K
          refine wpAnyH_done (by kernel_rfl) ?_ _
          simp only [Exit.then]
          all_goals
            go_wp2_with fail
            go_meet
            have h1 := ownT_new w11 (w.heap.size + 1) 5 (A0 ++ (A1 ++ (A2 ++ A3))) hN11 (by simp only [maxLen, List.length_append]; omega)
            rw [Lib.size_mk] at h1
            simp only [List.length_append] at h1
            rw [HHEAD.out]
            simp only [List.append_assoc]
            exact ⟨h1, (hb11.alloc hb11.size _).drew, (Lib.alloc_old _ _ _ hN11).trans hX11⟩
        case rest =>
          obtain ⟨ho0, hb0, hX0⟩ := hcut
          have HPB : PB w c (.slice aA c.attrs.length cA) (.slice aM c.mods.length cM) u4 (headC c) wc := ⟨ho0, hb0, hX0⟩
          clear kA0 kA1 kA2 kA3 kK happ ho0 hb0 hX0 hb6 hk6 hN66 d0 d1 d2 d3 k1 k2 k3 hb1
          have HTX : (textC c).length ≤ 1000000000 := HS.out.2.2.2.2.2 (by rw [HRC.out]; rfl)
          have HON : onlyC c = true := by have := HRC.out; unfold rightC at this; simp only [Bool.and_true, Bool.and_eq_true] at this; exact this.1.1
          have hrest := rest_all HON
          have htx : textC c = headC c ++ (attrB c.attrs ++ modB c.mods ++ (if c.kind = 3 then moveB c else [])) ++ [10] := by unfold textC; rw [hrest]
          have hlens : (headC c).length + (attrB c.attrs).length + (modB c.mods).length + (if c.kind = 3 then moveB c else []).length + 1 ≤ 1000000000 := by
            rw [htx] at HTX
            simp only [List.length_append, List.length_cons, List.length_nil] at HTX
            omega
          have HTXT := Lib.hid htx
          clear HTX hrest htx HON
          obtain ⟨HC, hHC⟩ : ∃ x, headC c = x := ⟨_, rfl⟩
          rw [hHC] at HPB hlens HTXT
          clear HHEAD hHC hcv l0 l1 l2 l3
          obtain ⟨⟨c0, c1, c2, c3, c4, c5, c6, c7, c8, c9⟩, _⟩ := ten_cells HPB.2.2
          go_wp2_with fail
          clear c0 c1 c2 c3 c4 c5 c6 c7 c8 c9
          go_loopw [4, 5] (fun v i wr => ∃ k : Nat, i = .int .i64 (k : Int) ∧ k ≤ c.attrs.length ∧ PB w c (.slice aA c.attrs.length cA) (.slice aM c.mods.length cM) v (HC ++ attrB (c.attrs.take k)) wr) (fun _ i _ => c.attrs.length - (RowKit.intOf i).toNat)
          case atStart => exact ⟨0, rfl, by omega, by simpa [attrB] using HPB⟩
          case round =>
            obtain ⟨k, rfl, hk, hpb⟩ := hrel
            clear HPB
            obtain ⟨⟨c0, c1, c2, c3, c4, c5, c6, c7, c8, c9⟩, _⟩ := ten_cells hpb.2.2
            by_cases hkl : k < c.attrs.length
            · obtain ⟨x, hx⟩ : ∃ x, c.attrs[k]? = some x := ⟨c.attrs[k], List.getElem?_eq_getElem hkl⟩
              have hne : c.attrs ≠ [] := by intro e; rw [e] at hkl; simp at hkl
              have hbx := (HS.out.2.2.2.1 x (List.mem_of_getElem? hx))
              obtain ⟨a3, cap3, e3, _, hcell⟩ := HA.out
              obtain ⟨g, o, ha, hcc⟩ := hcell hne
              cases e3
              subst ha
              obtain ⟨p1, z1, p3, hz1⟩ := hcc k x hx
              have HZ1 := Lib.hid hz1
              obtain ⟨a5, c5', e5, _, _⟩ := hz1
              subst e5
              have hal : c.attrs.length ≤ 1000000000 := HS.out.2.1
              have hxl2 : x.2.length ≤ 1000000000 := hbx.2.1
              have i1 : (k : Int) < (c.attrs.length : Int) := by omega
              have i3 : decide ((k : Int) < (c.attrs.length : Int)) = true := decide_eq_true i1
              have hnx := attrB_next c.attrs k x hx
              have hsn := attrB_snoc c.attrs k x hx
              have HSNX := Lib.hid hsn
              have HXX := Lib.hid hx
              have q1 := (hpb.2.1.cell (lt_of_cell p1)).trans p1
              have q3 := (hpb.2.1.cell (lt_of_cell p3)).trans p3
              clear hcc hcell hsn hx
              go_wp2_with fail
              clear c0 c1 c2 c3 c4 c5 c6 c7 c8 c9 q1 q3
              go_loopw [4, 6] (fun v i wr => ∃ j : Nat, i = .int .i64 (j : Int) ∧ j ≤ x.2.length ∧ PB w c (.slice (some ⟨g, o, none⟩) c.attrs.length cA) (.slice aM c.mods.length cM) v (HC ++ attrB (c.attrs.take k) ++ valsB x.1 (x.2.take j)) wr) (fun _ i _ => x.2.length - (RowKit.intOf i).toNat)
              case atStart => exact ⟨0, rfl, by omega, by simpa [valsB] using hpb⟩
              case round =>
                obtain ⟨j, rfl, hj, hpq⟩ := hrel
                clear hpb
                obtain ⟨⟨c0, c1, c2, c3, c4, c5, c6, c7, c8, c9⟩, _⟩ := ten_cells hpq.2.2
                have q1 := (hpq.2.1.cell (lt_of_cell p1)).trans p1
                have q3 := (hpq.2.1.cell (lt_of_cell p3)).trans p3
                by_cases hjl : j < x.2.length
                · obtain ⟨y, hy⟩ : ∃ y, x.2[j]? = some y := ⟨x.2[j], List.getElem?_eq_getElem hjl⟩
                  have hne2 : x.2 ≠ [] := by intro e; rw [e] at hjl; simp at hjl
                  obtain ⟨a6, c6', e6, _, hsu⟩ := HZ1.out
                  obtain ⟨g2, o2, ha2, hsv⟩ := hsu hne2
                  cases e6
                  subst ha2
                  have r1 := hsv j y hy
                  have q4 := (hpq.2.1.cell (lt_of_cell r1)).trans r1
                  have j1 : (j : Int) < (x.2.length : Int) := by omega
                  have j3 : decide ((j : Int) < (x.2.length : Int)) = true := decide_eq_true j1
                  have hyl := hbx.2.2 y (List.mem_of_getElem? hy)
                  have kl := fun W => rline_any x.1 y W (Nat.le_trans hbx.1 (by decide)) (Nat.le_trans hyl (by decide))
                  have hvs := valsB_snoc x.1 x.2 j y hy
                  have hvp := valsB_part x.1 x.2 (j + 1)
                  rw [hvs, List.length_append] at hvp
                  have HVS := Lib.hid hvs
                  obtain ⟨L, hL⟩ : ∃ L, HC ++ attrB (c.attrs.take k) ++ valsB x.1 (x.2.take j) = L := ⟨_, rfl⟩
                  have hLl : L.length + (lineB x.1 y).length ≤ 1000000000 := by
                    rw [← hL]
                    simp only [List.length_append]
                    omega
                  rw [hL] at hpq
                  have HLL := Lib.hid hL
                  obtain ⟨M, hM1⟩ : ∃ M, lineB x.1 y = M := ⟨_, rfl⟩
                  simp only [hM1] at kl
                  rw [hM1] at hLl HVS
                  clear hsu hsv hL hM1 hvs hvp hy
                  go_wp2_with fail
                  have hpD : PB w c (.slice (some ⟨g, o, none⟩) c.attrs.length cA) (.slice aM c.mods.length cM) u4 L wr.drew := ⟨hpq.1, hpq.2.1.drew, hpq.2.2⟩
                  have hH : ∀ v l W, PB w c (.slice (some ⟨g, o, none⟩) c.attrs.length cA) (.slice aM c.mods.length cM) v l W → W.cell? ⟨w.heap.size, 4, none⟩ = some (.slice (some ⟨g, o, none⟩) c.attrs.length cA) ∧ W.cell? ⟨g, o + k * 2, none⟩ = some (.string ⟨x.1.toArray⟩) ∧ W.cell? ⟨g, o + k * 2 + 1, none⟩ = some (.slice (some ⟨g2, o2, none⟩) x.2.length c5') ∧ W.cell? ⟨g2, o2 + j, none⟩ = some (.string ⟨y.toArray⟩) :=
                    fun v l W h => ⟨(ten_cells h.2.2).1.2.2.2.2.1, (h.2.1.cell (lt_of_cell p1)).trans p1, (h.2.1.cell (lt_of_cell p3)).trans p3, (h.2.1.cell (lt_of_cell r1)).trans r1⟩
                  have hG := fun (W w5 : World) (h : PB w c (.slice (some ⟨g, o, none⟩) c.attrs.length cA) (.slice aM c.mods.length cM) u4 L W) (hb : Below W.heap.size W w5) => hH u4 L w5 ⟨h.1.below hb, below_ext h.2.1 hb, (hb.block _ (Array.getElem?_eq_some_iff.1 h.2.2).1).trans h.2.2⟩
                  have e0 := hH _ _ _ hpD
                  have hszd := hpD.2.1.size
                  have hltd : w.heap.size < wr.drew.heap.size := (Array.getElem?_eq_some_iff.1 hpD.2.2).1
                  clear hpq c0 c1 c2 c3 c4 c5 c6 c7 c8 c9 q1 q3 q4
                  obtain ⟨e0, e1, e2, e3⟩ := e0
                  go_region_held3 (fun w' => w'.cell? ⟨w.heap.size, 4, none⟩ = some (.slice (some ⟨g, o, none⟩) c.attrs.length cA) ∧ w'.cell? ⟨g, o + k * 2, none⟩ = some (.string ⟨x.1.toArray⟩) ∧ w'.cell? ⟨g, o + k * 2 + 1, none⟩ = some (.slice (some ⟨g2, o2, none⟩) x.2.length c5') ∧ w'.cell? ⟨g2, o2 + j, none⟩ = some (.string ⟨y.toArray⟩))
                    (first | go_keep | exact ⟨e0, e1, e2, e3⟩)
                    (first
                      | (go_at_call 153; refine Calls.mono (show Calls _ _ _ _ _ from kl _) ?_; rintro e w5 ⟨rfl, hb5⟩; obtain ⟨e0, e1, e2, e3⟩ := hG _ w5 hpD hb5)
                      | (refine step_append_textT rfl (.tmp 62) (.tmp 78) 153 9 rfl (w.heap.size + 1) 5 i0 Tryz.underlying153 Tryz.underlying9 hi0 hz0 hz1 hz2 u4 L M rfl (hpD.1.below hb5) rfl (by omega) (by have := hb5.size; omega) ?_; intro v7 w7 ho7 hg7; have hp7 := hpD.next hb5 ho7 hg7; obtain ⟨e0, e1, e2, e3⟩ := hH _ _ w7 hp7))
                  go_wp2_with fail
                  exact ⟨⟨j + 1, by go_num, by omega, by rw [HVS.out, ← List.append_assoc, HLL.out]; exact hp7⟩, by simp [RowKit.intOf]; omega⟩
                · obtain rfl : j = x.2.length := by omega
                  rw [List.take_of_length_le (Nat.le_refl _)] at hpq
                  go_wp2_with fail
                  exact ⟨⟨k + 1, by go_num, by omega, by rw [HSNX.out, ← List.append_assoc]; exact hpq⟩, by simp [RowKit.intOf]; omega⟩
            · obtain rfl : k = c.attrs.length := by omega
              rw [List.take_of_length_le (Nat.le_refl _)] at hpb
              obtain ⟨HD, hHD⟩ : ∃ x, HC ++ attrB c.attrs = x := ⟨_, rfl⟩
              have hHDl : HD.length = HC.length + (attrB c.attrs).length := by rw [← hHD, List.length_append]
              rw [hHD] at hpb
              have HHD := Lib.hid hHD
              clear hHD
              have hml : c.mods.length ≤ 1000000000 := HS.out.2.2.1
              have hmo : ∀ x ∈ c.mods, 0 ≤ x.1 ∧ x.1 ≤ 2 := by
                have := HRC.out
                unfold rightC at this
                simp only [Bool.and_true, Bool.and_eq_true] at this
                intro x hx
                have := List.all_eq_true.1 this.2 x hx
                simp only [Bool.and_eq_true, decide_eq_true_eq] at this
                exact this.1
              have HMO := Lib.hid hmo
              clear hmo
              go_wp2_with fail
              clear c0 c1 c2 c3 c4 c5 c6 c7 c8 c9
              go_loopw [4, 7] (fun v i wr => ∃ k : Nat, i = .int .i64 (k : Int) ∧ k ≤ c.mods.length ∧ PB w c (.slice aA c.attrs.length cA) (.slice aM c.mods.length cM) v (HD ++ modB (c.mods.take k)) wr) (fun _ i _ => c.mods.length - (RowKit.intOf i).toNat)
              case atStart => exact ⟨0, rfl, by omega, by simpa [modB] using hpb⟩
              case round =>
                obtain ⟨k, rfl, hk, hpb⟩ := hrel
                obtain ⟨⟨c0, c1, c2, c3, c4, c5, c6, c7, c8, c9⟩, _⟩ := ten_cells hpb.2.2
                by_cases hkl : k < c.mods.length
                · obtain ⟨x, hx⟩ : ∃ x, c.mods[k]? = some x := ⟨c.mods[k], List.getElem?_eq_getElem hkl⟩
                  have hne : c.mods ≠ [] := by intro e; rw [e] at hkl; simp at hkl
                  have hbx := (HS.out.2.2.2.2.1 x (List.mem_of_getElem? hx))
                  obtain ⟨hx0, hx2⟩ := HMO.out x (List.mem_of_getElem? hx)
                  obtain ⟨a3, cap3, e3, _, hcell⟩ := HM.out
                  obtain ⟨g, o, ha, hcc⟩ := hcell hne
                  cases e3
                  subst ha
                  obtain ⟨p1, p2, z1, p3, hz1⟩ := hcc k x hx
                  have HZ1 := Lib.hid hz1
                  obtain ⟨a5, c5', e5, _, _⟩ := hz1
                  subst e5
                  have hxl2 : x.2.2.length ≤ 1000000000 := hbx.2.1
                  have i1 : (k : Int) < (c.mods.length : Int) := by omega
                  have i3 : decide ((k : Int) < (c.mods.length : Int)) = true := decide_eq_true i1
                  have hnx := modB_next c.mods k x hx
                  have hsn := modB_snoc c.mods k x hx
                  have HSNX := Lib.hid hsn
                  obtain ⟨M1, hM1⟩ : ∃ y, lineB (opW x.1) x.2.1 = y := ⟨_, rfl⟩
                  have hm1 : modB1 x = M1 ++ valsB x.2.1 x.2.2 ++ [45, 10] := by unfold modB1; rw [hM1]
                  rw [hm1] at hnx HSNX
                  simp only [List.length_append, List.length_cons, List.length_nil] at hnx
                  have hop : (opW x.1).length ≤ 1099511627776 := by unfold opW; split <;> (try split) <;> decide
                  have kl := fun W => rline_any (opW x.1) x.2.1 W hop (Nat.le_trans hbx.1 (by decide))
                  have ko := fun W => ops_fo x.1 hx0 hx2 W
                  simp only [hM1] at kl
                  have hxn : ((x.1.toNat : Nat) : Int) = x.1 := by omega
                  have hx3 : x.1 < 3 := by omega
                  obtain ⟨L, hL⟩ : ∃ L, HD ++ modB (c.mods.take k) = L := ⟨_, rfl⟩
                  have hLl : L.length = HD.length + (modB (c.mods.take k)).length := by rw [← hL, List.length_append]
                  rw [hL] at hpb
                  have HLL := Lib.hid hL
                  have hH : ∀ v l W, PB w c (.slice aA c.attrs.length cA) (.slice (some ⟨g, o, none⟩) c.mods.length cM) v l W → W.cell? ⟨w.heap.size, 5, none⟩ = some (.slice (some ⟨g, o, none⟩) c.mods.length cM) ∧ W.cell? ⟨g, o + k * 3, none⟩ = some (.int .i64 x.1) ∧ W.cell? ⟨g, o + k * 3 + 1, none⟩ = some (.string ⟨x.2.1.toArray⟩) :=
                    fun v l W h => ⟨(ten_cells h.2.2).1.2.2.2.2.2.1, (h.2.1.cell (lt_of_cell p1)).trans p1, (h.2.1.cell (lt_of_cell p2)).trans p2⟩
                  clear hcc hcell hsn hx hL hM1 hm1 c0 c1 c2 c3 c6 c7 c8 c9
                  obtain ⟨q0, q1, q2⟩ := hH _ _ _ hpb
                  go_wp2_with fail
                  have hpD : PB w c (.slice aA c.attrs.length cA) (.slice (some ⟨g, o, none⟩) c.mods.length cM) u4 L wr.drew := ⟨hpb.1, hpb.2.1.drew, hpb.2.2⟩
                  obtain ⟨e0, e1, e2⟩ := hH _ _ _ hpD
                  have hltd : w.heap.size < wr.drew.heap.size := (Array.getElem?_eq_some_iff.1 hpD.2.2).1
                  clear hpb c4 c5 q0 q1 q2
                  have hszd := hpD.2.1.size
                  go_cut [4] from 87 to 104 (fun s4 wx => PB w c (.slice aA c.attrs.length cA) (.slice (some ⟨g, o, none⟩) c.mods.length cM) s4 (L ++ M1) wx)
                  case first =>
                    refine wp_region_held (S := (fun w' => w'.cell? ⟨w.heap.size, 5, none⟩ = some (.slice (some ⟨g, o, none⟩) c.mods.length cM) ∧ w'.cell? ⟨g, o + k * 3, none⟩ = some (.int .i64 x.1) ∧ w'.cell? ⟨g, o + k * 3 + 1, none⟩ = some (.string ⟨x.2.1.toArray⟩))) (by kernel_rfl) ?_
                    change wpAnyH _ _ _ _ _ _ _ _ wr.drew
                    refine anyH_take 0 u4 rfl (by kernel_rfl) (by kernel_rfl) (by kernel_rfl) (fun _ _ _ h => h) (by rfl) (fun w' hS => by obtain ⟨q0, q1, q2⟩ := hS; go_simp) ⟨e0, e1, e2⟩ (fun K hK => ?_); go_simp; refine hK _ _ ?_; clear hK K
                    refine anyH_take 2 (.pointer (some ⟨w.heap.size, 5, none⟩)) rfl (by kernel_rfl) (by kernel_rfl) (by kernel_rfl) (fun _ _ _ h => h) (by rfl) (fun w' hS => by obtain ⟨q0, q1, q2⟩ := hS; go_simp) ⟨e0, e1, e2⟩ (fun K hK => ?_); go_simp; refine hK _ _ ?_; clear hK K
                    refine anyH_take 3 (.slice (some ⟨g, o, none⟩) c.mods.length cM) rfl (by kernel_rfl) (by kernel_rfl) (by kernel_rfl) (fun _ _ _ h => h) (by rfl) (fun w' hS => by obtain ⟨q0, q1, q2⟩ := hS; go_simp) ⟨e0, e1, e2⟩ (fun K hK => ?_); go_simp; refine hK _ _ ?_; clear hK K
                    refine anyH_take 4 (.int .i64 (k : Int)) rfl (by kernel_rfl) (by kernel_rfl) (by kernel_rfl) (fun _ _ _ h => h) (by rfl) (fun w' hS => by obtain ⟨q0, q1, q2⟩ := hS; go_simp) ⟨e0, e1, e2⟩ (fun K hK => ?_); go_simp; refine hK _ _ ?_; clear hK K
                    refine anyH_take 5 (.pointer (some ⟨g, o + k * 3, none⟩)) rfl (by kernel_rfl) (by kernel_rfl) (by kernel_rfl) (fun _ _ _ h => h) (by rfl) (fun w' hS => by obtain ⟨q0, q1, q2⟩ := hS; go_simp) ⟨e0, e1, e2⟩ (fun K hK => ?_); go_simp; refine hK _ _ ?_; clear hK K
                    refine anyH_take 6 (.pointer (some ⟨g, o + k * 3, none⟩)) rfl (by kernel_rfl) (by kernel_rfl) (by kernel_rfl) (fun _ _ _ h => h) (by rfl) (fun w' hS => by obtain ⟨q0, q1, q2⟩ := hS; go_simp) ⟨e0, e1, e2⟩ (fun K hK => ?_); go_simp; refine hK _ _ ?_; clear hK K
                    refine anyH_take 7 (.int .i64 x.1) rfl (by kernel_rfl) (by kernel_rfl) (by kernel_rfl) (fun _ _ _ h => h) (by rfl) (fun w' hS => by obtain ⟨q0, q1, q2⟩ := hS; go_simp) ⟨e0, e1, e2⟩ (fun K hK => ?_); go_simp; refine hK _ _ ?_; clear hK K
                    refine anyH_take 10 (.pointer (some ⟨w.heap.size, 5, none⟩)) rfl (by kernel_rfl) (by kernel_rfl) (by kernel_rfl) (fun _ _ _ h => h) (by rfl) (fun w' hS => by obtain ⟨q0, q1, q2⟩ := hS; go_simp) ⟨e0, e1, e2⟩ (fun K hK => ?_); go_simp; refine hK _ _ ?_; clear hK K
                    refine anyH_take 11 (.slice (some ⟨g, o, none⟩) c.mods.length cM) rfl (by kernel_rfl) (by kernel_rfl) (by kernel_rfl) (fun _ _ _ h => h) (by rfl) (fun w' hS => by obtain ⟨q0, q1, q2⟩ := hS; go_simp) ⟨e0, e1, e2⟩ (fun K hK => ?_); go_simp; refine hK _ _ ?_; clear hK K
                    refine anyH_take 12 (.int .i64 (k : Int)) rfl (by kernel_rfl) (by kernel_rfl) (by kernel_rfl) (fun _ _ _ h => h) (by rfl) (fun w' hS => by obtain ⟨q0, q1, q2⟩ := hS; go_simp) ⟨e0, e1, e2⟩ (fun K hK => ?_); go_simp; refine hK _ _ ?_; clear hK K
                    refine anyH_take 13 (.pointer (some ⟨g, o + k * 3, none⟩)) rfl (by kernel_rfl) (by kernel_rfl) (by kernel_rfl) (fun _ _ _ h => h) (by rfl) (fun w' hS => by obtain ⟨q0, q1, q2⟩ := hS; go_simp) ⟨e0, e1, e2⟩ (fun K hK => ?_); go_simp; refine hK _ _ ?_; clear hK K
                    refine anyH_take 14 (.pointer (some ⟨g, o + k * 3 + 1, none⟩)) rfl (by kernel_rfl) (by kernel_rfl) (by kernel_rfl) (fun _ _ _ h => h) (by rfl) (fun w' hS => by obtain ⟨q0, q1, q2⟩ := hS; go_simp) ⟨e0, e1, e2⟩ (fun K hK => ?_); go_simp; refine hK _ _ ?_; clear hK K
                    refine anyH_take 15 (.string ⟨x.2.1.toArray⟩) rfl (by kernel_rfl) (by kernel_rfl) (by kernel_rfl) (fun _ _ _ h => h) (by rfl) (fun w' hS => by obtain ⟨q0, q1, q2⟩ := hS; go_simp) ⟨e0, e1, e2⟩ (fun K hK => ?_); go_simp; refine hK _ _ ?_; clear hK K
                    refine anyH_one 1 (by kernel_rfl) rfl (by rfl) (fun K hK => ?_); go_simp; go_wp2_with fail
                    refine Calls.mono (show Calls _ _ _ _ _ from ko _) ?_; rintro e w5 ⟨go, rfl, hb5, dk⟩; have hp5 := hpD.on hb5; obtain ⟨e0, e1, e2⟩ := hH _ _ w5 hp5; have hs5 := hp5.2.1.size
                    refine hK _ _ ⟨e0, e1, e2⟩ ?_; clear hK K
                    refine anyH_one 8 (by kernel_rfl) rfl (by rfl) (fun K hK => ?_); go_simp; refine hK _ _ ⟨e0, e1, e2⟩ ?_; clear hK K
                    refine anyH_one 9 (by kernel_rfl) rfl (by rfl) (fun K hK => ?_); go_simp; refine hK _ _ ⟨e0, e1, e2⟩ ?_; clear hK K
                    refine anyH_one 16 (by kernel_rfl) rfl (by rfl) (fun K hK => ?_); go_simp; go_wp2_with fail
                    refine Calls.mono (show Calls _ _ _ _ _ from kl _) ?_; rintro e w6 ⟨rfl, hb6⟩; have hp6 := hp5.on hb6; obtain ⟨e0, e1, e2⟩ := hH _ _ w6 hp6
                    refine hK _ _ ⟨e0, e1, e2⟩ ?_; clear hK K
                    refine anyH_one 17 (by kernel_rfl) rfl (by rfl) (fun K hK => ?_)
                    refine wp_append_textT (.tmp 87) (.tmp 103) 153 9 rfl (w.heap.size + 1) 5 i0 Tryz.underlying153 Tryz.underlying9 hi0 hz0 hz1 hz2 u4 L M1 rfl (hp5.1.below hb6) rfl (by omega) (by have := hb6.size; have := (Array.getElem?_eq_some_iff.1 hp5.2.2).1; omega) ?_; intro v7 w7 ho7 hg7; have hp7 := hp5.next hb6 ho7 hg7; obtain ⟨e0, e1, e2⟩ := hH _ _ w7 hp7; refine hK _ _ ⟨e0, e1, e2⟩ ?_; clear hK K
                    refine anyH_one 18 (by kernel_rfl) rfl (by rfl) (fun K hK => ?_); go_simp; refine hK _ _ ⟨e0, e1, e2⟩ ?_; clear hK K
                    refine wpAnyH_done (by kernel_rfl) ?_ _
                    simp only [Exit.then]
                    all_goals
                      go_wp2_with fail
                      go_meet
                      exact hp7
                  case rest =>
                    have hpE := hcut
                    clear hcut hpD e0 e1 e2 hltd hszd
                    obtain ⟨⟨c0, c1, c2, c3, c4, c5, c6, c7, c8, c9⟩, _⟩ := ten_cells hpE.2.2
                    go_wp2_with fail
                    clear c0 c1 c2 c3 c4 c5 c6 c7 c8 c9
                    go_loopw [4, 8] (fun v i wr => ∃ j : Nat, i = .int .i64 (j : Int) ∧ j ≤ x.2.2.length ∧ PB w c (.slice aA c.attrs.length cA) (.slice (some ⟨g, o, none⟩) c.mods.length cM) v (L ++ M1 ++ valsB x.2.1 (x.2.2.take j)) wr) (fun _ i _ => x.2.2.length - (RowKit.intOf i).toNat)
                    case atStart => exact ⟨0, rfl, by omega, by simpa [valsB] using hpE⟩
                    case round =>
                      obtain ⟨j, rfl, hj, hpq⟩ := hrel
                      obtain ⟨⟨c0, c1, c2, c3, c4, c5, c6, c7, c8, c9⟩, _⟩ := ten_cells hpq.2.2
                      have q1 := (hpq.2.1.cell (lt_of_cell p2)).trans p2
                      have q3 := (hpq.2.1.cell (lt_of_cell p3)).trans p3
                      by_cases hjl : j < x.2.2.length
                      · obtain ⟨y, hy⟩ : ∃ y, x.2.2[j]? = some y := ⟨x.2.2[j], List.getElem?_eq_getElem hjl⟩
                        have hne2 : x.2.2 ≠ [] := by intro e; rw [e] at hjl; simp at hjl
                        obtain ⟨a6, c6', e6, _, hsu⟩ := HZ1.out
                        obtain ⟨g2, o2, ha2, hsv⟩ := hsu hne2
                        cases e6
                        subst ha2
                        have r1 := hsv j y hy
                        have q4 := (hpq.2.1.cell (lt_of_cell r1)).trans r1
                        have j1 : (j : Int) < (x.2.2.length : Int) := by omega
                        have j3 : decide ((j : Int) < (x.2.2.length : Int)) = true := decide_eq_true j1
                        have hyl := hbx.2.2 y (List.mem_of_getElem? hy)
                        have kl2 := fun W => rline_any x.2.1 y W (Nat.le_trans hbx.1 (by decide)) (Nat.le_trans hyl (by decide))
                        have hvs := valsB_snoc x.2.1 x.2.2 j y hy
                        have hvp := valsB_part x.2.1 x.2.2 (j + 1)
                        rw [hvs, List.length_append] at hvp
                        have HVS := Lib.hid hvs
                        obtain ⟨L2, hL⟩ : ∃ z, L ++ M1 ++ valsB x.2.1 (x.2.2.take j) = z := ⟨_, rfl⟩
                        have hLl2 : L2.length + (lineB x.2.1 y).length ≤ 1000000000 := by
                          rw [← hL]
                          simp only [List.length_append]
                          omega
                        rw [hL] at hpq
                        have HLL2 := Lib.hid hL
                        obtain ⟨M, hM1⟩ : ∃ M, lineB x.2.1 y = M := ⟨_, rfl⟩
                        simp only [hM1] at kl2
                        rw [hM1] at hLl2 HVS
                        have hH2 : ∀ v l W, PB w c (.slice aA c.attrs.length cA) (.slice (some ⟨g, o, none⟩) c.mods.length cM) v l W → W.cell? ⟨w.heap.size, 5, none⟩ = some (.slice (some ⟨g, o, none⟩) c.mods.length cM) ∧ W.cell? ⟨g, o + k * 3 + 1, none⟩ = some (.string ⟨x.2.1.toArray⟩) ∧ W.cell? ⟨g, o + k * 3 + 2, none⟩ = some (.slice (some ⟨g2, o2, none⟩) x.2.2.length c5') ∧ W.cell? ⟨g2, o2 + j, none⟩ = some (.string ⟨y.toArray⟩) :=
                          fun v l W h => ⟨(ten_cells h.2.2).1.2.2.2.2.2.1, (h.2.1.cell (lt_of_cell p2)).trans p2, (h.2.1.cell (lt_of_cell p3)).trans p3, (h.2.1.cell (lt_of_cell r1)).trans r1⟩
                        clear hsu hsv hL hM1 hvs hvp hy hpE kl ko hH c0 c1 c2 c3 c4 c6 c7 c8 c9
                        go_wp2_with fail
                        have hpD : PB w c (.slice aA c.attrs.length cA) (.slice (some ⟨g, o, none⟩) c.mods.length cM) u4 L2 wr.drew := ⟨hpq.1, hpq.2.1.drew, hpq.2.2⟩
                        obtain ⟨e0, e1, e2, e3⟩ := hH2 _ _ _ hpD
                        have hszd := hpD.2.1.size
                        have hltd : w.heap.size < wr.drew.heap.size := (Array.getElem?_eq_some_iff.1 hpD.2.2).1
                        clear hpq c5 q1 q3 q4
                        go_region_held3 (fun w' => w'.cell? ⟨w.heap.size, 5, none⟩ = some (.slice (some ⟨g, o, none⟩) c.mods.length cM) ∧ w'.cell? ⟨g, o + k * 3 + 1, none⟩ = some (.string ⟨x.2.1.toArray⟩) ∧ w'.cell? ⟨g, o + k * 3 + 2, none⟩ = some (.slice (some ⟨g2, o2, none⟩) x.2.2.length c5') ∧ w'.cell? ⟨g2, o2 + j, none⟩ = some (.string ⟨y.toArray⟩))
                          (first | go_keep | exact ⟨e0, e1, e2, e3⟩)
                          (first
                            | (go_at_call 153; refine Calls.mono (show Calls _ _ _ _ _ from kl2 _) ?_; rintro e w5 ⟨rfl, hb5⟩; have hp5 := hpD.on hb5; obtain ⟨e0, e1, e2, e3⟩ := hH2 _ _ w5 hp5)
                            | (refine step_append_textT rfl (.tmp 116) (.tmp 132) 153 9 rfl (w.heap.size + 1) 5 i0 Tryz.underlying153 Tryz.underlying9 hi0 hz0 hz1 hz2 u4 L2 M rfl (hpD.1.below hb5) rfl (by omega) (by have := hb5.size; omega) ?_; intro v7 w7 ho7 hg7; have hp7 := hpD.next hb5 ho7 hg7; obtain ⟨e0, e1, e2, e3⟩ := hH2 _ _ w7 hp7))
                        go_wp2_with fail
                        exact ⟨⟨j + 1, by go_num, by omega, by rw [HVS.out, ← List.append_assoc, HLL2.out]; exact hp7⟩, by simp [RowKit.intOf]; omega⟩
                      · obtain rfl : j = x.2.2.length := by omega
                        rw [List.take_of_length_le (Nat.le_refl _)] at hpq
                        have hpq2 := hpq.1.lt
                        have hszq := hpq.2.1.size
                        have hltq : w.heap.size < wr.heap.size := (Array.getElem?_eq_some_iff.1 hpq.2.2).1
                        have hlL : (L ++ M1 ++ valsB x.2.1 x.2.2).length + 2 ≤ 1000000000 := by
                          simp only [List.length_append]
                          omega
                        go_wp2_with (at_builtin; refine wpList_append_textT rfl (.tmp 134) (.const (.string ⟨#[45, 10]⟩)) 153 9 rfl (w.heap.size + 1) 5 i0 Tryz.underlying153 Tryz.underlying9 hi0 hz0 hz1 hz2 u4 (L ++ M1 ++ valsB x.2.1 x.2.2) [45, 10] rfl hpq.1 rfl (by simp only [List.length_cons, List.length_nil]; omega) (by omega) ?_; intro v7 w7 ho7 hg7; have hp7 := hpq.next (Below.refl _ _) ho7 hg7)
                        exact ⟨⟨k + 1, by go_num, by omega, by rw [HSNX.out, ← List.append_assoc, ← List.append_assoc, ← List.append_assoc, HLL.out]; exact hp7⟩, by simp [RowKit.intOf]; omega⟩
                · obtain rfl : k = c.mods.length := by omega
                  rw [List.take_of_length_le (Nat.le_refl _)] at hpb
                  obtain ⟨HE, hHE⟩ : ∃ z, HD ++ modB c.mods = z := ⟨_, rfl⟩
                  have hHEl : HE.length = HD.length + (modB c.mods).length := by rw [← hHE, List.length_append]
                  rw [hHE] at hpb
                  have HHE := Lib.hid hHE
                  clear hHE
                  obtain ⟨MV, hMV⟩ : ∃ z, (if c.kind = 3 then moveB c else []) = z := ⟨_, rfl⟩
                  rw [hMV] at hlens HTXT
                  have HMVV := Lib.hid hMV
                  clear hMV
                  go_upto_if 138 with fail
                  go_cut [4, 9, 138] from 139 to 155 (fun s4 _ _ wx => PB w c (.slice aA c.attrs.length cA) (.slice aM c.mods.length cM) s4 (HE ++ MV) wx)
                  case first =>
                    by_cases hk3 : c.kind = 3
                    · have hkb : (c.kind == 3) = true := by rw [beq_iff_eq]; exact hk3
                      have hmv : MV = _ := HMVV.out.symm.trans (if_pos hk3)
                      rw [moveB_parts c] at hmv
                      have HKB := Lib.hid hk3
                      clear hk3
                      obtain ⟨d, hd⟩ : ∃ d, c.delOld = d := ⟨_, rfl⟩
                      obtain ⟨sp, hsp⟩ : ∃ d, c.hasSup = d := ⟨_, rfl⟩
                      have c8' := c8
                      have c9' := c9
                      rw [hd] at c8' hmv
                      rw [hsp] at c9' hmv
                      have hbm := HS.out.1
                      have kN := fun W => rline_any [110, 101, 119, 114, 100, 110] c.newRdn W (by decide) (Nat.le_trans hbm.2.2.2.1 (by decide))
                      have kO := fun W => rline_any [100, 101, 108, 101, 116, 101, 111, 108, 100, 114, 100, 110] (if d then [49] else [48]) W (by decide) (by split <;> decide)
                      have kS := fun W => rline_any [110, 101, 119, 115, 117, 112, 101, 114, 105, 111, 114] c.newSup W (by decide) (Nat.le_trans hbm.2.2.2.2 (by decide))
                      obtain ⟨N1, hN1⟩ : ∃ z, lineB [110, 101, 119, 114, 100, 110] c.newRdn = z := ⟨_, rfl⟩
                      obtain ⟨O1, hO1⟩ : ∃ z, lineB [100, 101, 108, 101, 116, 101, 111, 108, 100, 114, 100, 110] (if d then [49] else [48]) = z := ⟨_, rfl⟩
                      obtain ⟨S1, hS1⟩ : ∃ z, lineB [110, 101, 119, 115, 117, 112, 101, 114, 105, 111, 114] c.newSup = z := ⟨_, rfl⟩
                      simp only [hN1] at kN
                      simp only [hO1] at kO
                      simp only [hS1] at kS
                      rw [hN1, hO1, hS1] at hmv
                      have happ1 : (⟨N1.toArray⟩ ++ ⟨O1.toArray⟩ : ByteArray) = ⟨(N1 ++ O1).toArray⟩ := app_mk _ _
                      have hNO : N1.length + O1.length + HE.length ≤ 1000000000 := by
                        rw [hmv] at hlens
                        simp only [List.length_append] at hlens
                        omega
                      have HMV := Lib.hid hmv
                      have HSP := Lib.hid hsp
                      clear hmv hd hsp c8 c9 hN1 hO1 hS1
                      have hpb' := hpb
                      have hszb := hpb.2.1.size
                      have hltb : w.heap.size < wr.heap.size := (Array.getElem?_eq_some_iff.1 hpb.2.2).1
                      have k9 : ∀ v l W, PB w c (.slice aA c.attrs.length cA) (.slice aM c.mods.length cM) v l W → W.cell? ⟨w.heap.size, 9, none⟩ = some (.bool sp) ∧ W.cell? ⟨w.heap.size, 7, none⟩ = some (.string ⟨c.newSup.toArray⟩) :=
                        fun v l W h => by rw [← HSP.out]; exact ⟨(ten_cells h.2.2).1.2.2.2.2.2.2.2.2.2, (ten_cells h.2.2).1.2.2.2.2.2.2.2.1⟩
                      clear c0 c1 c2 c3 c4 c5 c7 c9'
                      cases d
                      case' false => simp only [Bool.false_eq_true, if_false] at kO
                      case' true => simp only [if_true] at kO
                      all_goals cases sp
                      all_goals
                        go_wp2_with (first
                          | (go_at_call_of 153 (Value.string ⟨#[110, 101, 119, 114, 100, 110]⟩); refine Calls.mono (show Calls _ _ _ _ _ from kN _) ?_; rintro e w5 ⟨rfl, hb5⟩; have hp5 := hpb.on hb5)
                          | (go_at_call_of 153 (Value.string ⟨#[100, 101, 108, 101, 116, 101, 111, 108, 100, 114, 100, 110]⟩); refine Calls.mono (show Calls _ _ _ _ _ from kO _) ?_; rintro e w6 ⟨rfl, hb6⟩; have hp6 := hp5.on hb6)
                          | (at_builtin; refine wpList_append_textT rfl (.tmp 141) (.tmp 147) 153 9 rfl (w.heap.size + 1) 5 i0 Tryz.underlying153 Tryz.underlying9 hi0 hz0 hz1 hz2 u4 HE (N1 ++ O1) rfl hp6.1 rfl (by rw [List.length_append]; omega) (Array.getElem?_eq_some_iff.1 hp6.2.2).1 ?_; intro v7 w7 ho7 hg7; have hp7 := hp6.next (Below.refl _ _) ho7 hg7; obtain ⟨k90, k70⟩ := k9 _ _ _ hp7)
                          | (go_at_call_of 153 (Value.string ⟨#[110, 101, 119, 115, 117, 112, 101, 114, 105, 111, 114]⟩); refine Calls.mono (show Calls _ _ _ _ _ from kS _) ?_; rintro e w8 ⟨rfl, hb8⟩; have hp8 := hp7.on hb8)
                          | (at_builtin; refine wpList_append_textT rfl (.tmp 151) (.tmp 154) 153 9 rfl (w.heap.size + 1) 5 i0 Tryz.underlying153 Tryz.underlying9 hi0 hz0 hz1 hz2 v7 (HE ++ (N1 ++ O1)) S1 rfl hp8.1 rfl (by simp only [List.length_append]; have := HMV.out; simp only [if_true] at this; have := congrArg List.length this; simp only [List.length_append] at this; omega) (Array.getElem?_eq_some_iff.1 hp8.2.2).1 ?_; intro v9 w9 ho9 hg9; have hp9 := hp8.next (Below.refl _ _) ho9 hg9))
                        go_meet
                        have := HMV.out
                        first
                          | (simp only [Bool.false_eq_true, if_false, List.append_nil] at this; rw [this]; exact hp7)
                          | (simp only [if_true] at this; rw [this, ← List.append_assoc]; exact hp9)
                    · have hkb : (c.kind == 3) = false := by rw [beq_eq_false_iff_ne]; exact hk3
                      have hmv : MV = [] := HMVV.out.symm.trans (if_neg hk3)
                      have HMV := Lib.hid hmv
                      clear hk3 hmv
                      go_wp2_with fail
                      go_meet
                      rw [HMV.out, List.append_nil]
                      exact hpb
                  case rest =>
                    have hpE := hcut
                    clear hcut c0 c1 c2 c3 c4 c5 c6 c7 c8 c9 hpb
                    obtain ⟨T, hT⟩ : ∃ z, HE ++ MV ++ [10] = z := ⟨_, rfl⟩
                    have hTl : T.length ≤ 1000000000 := by
                      rw [← hT]
                      simp only [List.length_append, List.length_cons, List.length_nil]
                      omega
                    have hTc : textC c = T := by
                      rw [HTXT.out, ← hT, ← HHE.out, ← HHD.out]
                      simp only [List.append_assoc]
                    have hans : (s, n) = if 65536 < T.length then ([], 2) else (T, 0) := by
                      rw [← HSN.out]
                      unfold printC
                      rw [HRC.out, hTc]
                      simp
                    have HT := Lib.hid hT
                    have HAN := Lib.hid hans
                    have hba : Below wc.heap.size wc (wc.alloc (.cells #[.int .u8 10] 5)) := (Below.refl _ _).alloc (Nat.le_refl _) _
                    have hpA := hpE.on hba
                    have hszc := hpE.2.1.size
                    have hltc : w.heap.size < wc.heap.size := (Array.getElem?_eq_some_iff.1 hpE.2.2).1
                    have hnew : ∀ j u, (bV [10])[j]? = some u → (wc.alloc (.cells #[.int .u8 10] 5)).cell? ((⟨wc.heap.size, 0, none⟩ : Addr).add j) = some u := World.news_of_block (alloc_at _ _ _ rfl)
                    have HNEW := Lib.hid hnew
                    have hlEM : (HE ++ MV).length + 1 ≤ 1000000000 := by
                      simp only [List.length_append]
                      omega
                    clear hT hTc hans hnew
                    by_cases hbig : 65536 < T.length
                    · have gb : decide ((65536 : Int) < (T.length : Int)) = true := decide_eq_true (by omega)
                      have han : s = [] ∧ n = 2 := by
                        have := HAN.out
                        rw [if_pos hbig] at this
                        simpa using this
                      obtain ⟨rfl, rfl⟩ := han
                      go_wp2_with (at_builtin; refine wpList_append_bytesT rfl (.tmp 156) (.tmp 157) 153 rfl (w.heap.size + 1) 5 i0 Tryz.underlying153 hi0 hz0 hz1 hz2 _ (HE ++ MV) [10] rfl hpA.1 ⟨wc.heap.size, 0, none⟩ 1 rfl HNEW.out (by simpa using by omega) (by simp; omega) ?_; intro v7 w7 ho7 hg7; have hp7 := hpA.next (Below.refl _ _) ho7 hg7; rw [HT.out] at hp7 ho7; clear hg7; obtain ⟨g7, cap7, cur7, fz7, rfl, hr7⟩ := id ho7)
                      show PR (.returned (.tuple #[.string ⟨#[]⟩, .int .i64 2])) w7
                      rw [← HPR.out]
                      exact ⟨rfl, hp7.2.1⟩
                    · have gb : decide ((65536 : Int) < (T.length : Int)) = false := decide_eq_false (by omega)
                      have han : s = T ∧ n = 0 := by
                        have := HAN.out
                        rw [if_neg hbig] at this
                        simpa using this
                      obtain ⟨rfl, rfl⟩ := han
                      go_wp2_with (at_builtin; refine wpList_append_bytesT rfl (.tmp 156) (.tmp 157) 153 rfl (w.heap.size + 1) 5 i0 Tryz.underlying153 hi0 hz0 hz1 hz2 _ (HE ++ MV) [10] rfl hpA.1 ⟨wc.heap.size, 0, none⟩ 1 rfl HNEW.out (by simpa using by omega) (by simp; omega) ?_; intro v7 w7 ho7 hg7; have hp7 := hpA.next (Below.refl _ _) ho7 hg7; rw [HT.out] at hp7 ho7; clear hg7; obtain ⟨g7, cap7, cur7, fz7, rfl, hr7⟩ := id ho7; have hcs := run_str_cells (P := Tryz.prog) w7 153 9 5 ⟨g7, 0, none⟩ cap7 s Tryz.underlying153 Tryz.underlying5 Tryz.underlying9 (ho7.cells rfl))
                      show PR (.returned (.tuple #[.string ⟨s.toArray⟩, .int .i64 0])) w7
                      rw [← HPR.out]
                      exact ⟨rfl, hp7.2.1⟩
end Go.Proofs.YtegigcneimjimaaGreatDoor
