/- LdK, LdP, LdQ, LdS. -/
import Derived.Test.YtegigcneimjimaaGreatDoorU4
import Derived.Test.YtegigcneimjimaaGreatDoorU5
namespace Go.Proofs.YtegigcneimjimaaGreatDoor
open Go.RowKit Go.Lib
set_option maxRecDepth 100000
set_option maxHeartbeats 16000000
theorem kindWord_any (n : Int) (w : World) (h : 0 ≤ n ∧ n ≤ 3) :
    Calls Tryz.prog 133 #[.int .i64 n] w fun e w' => e = .returned (.string ⟨(kindW n).toArray⟩) ∧ w = w' := by
  have hn : n = 0 ∨ n = 1 ∨ n = 2 ∨ n = 3 := by omega
  rcases hn with rfl | rfl | rfl | rfl
  · have hix : (Instr.index 274 (.agg #[.string ⟨#[97, 100, 100]⟩, .string ⟨#[100, 101, 108, 101, 116, 101]⟩, .string ⟨#[109, 111, 100, 105, 102, 121]⟩, .string ⟨#[109, 111, 100, 114, 100, 110]⟩]) (.int .i64 0)).run Tryz.prog w = .ok (.string ⟨#[97, 100, 100]⟩) w := by kernel_rfl
    go_enter Tryz.func133, Tryz.ntmps133
    go_wp2
    go_ret
    exact ⟨rfl, rfl⟩
  · have hix : (Instr.index 274 (.agg #[.string ⟨#[97, 100, 100]⟩, .string ⟨#[100, 101, 108, 101, 116, 101]⟩, .string ⟨#[109, 111, 100, 105, 102, 121]⟩, .string ⟨#[109, 111, 100, 114, 100, 110]⟩]) (.int .i64 1)).run Tryz.prog w = .ok (.string ⟨#[100, 101, 108, 101, 116, 101]⟩) w := by kernel_rfl
    go_enter Tryz.func133, Tryz.ntmps133
    go_wp2
    go_ret
    exact ⟨rfl, rfl⟩
  · have hix : (Instr.index 274 (.agg #[.string ⟨#[97, 100, 100]⟩, .string ⟨#[100, 101, 108, 101, 116, 101]⟩, .string ⟨#[109, 111, 100, 105, 102, 121]⟩, .string ⟨#[109, 111, 100, 114, 100, 110]⟩]) (.int .i64 2)).run Tryz.prog w = .ok (.string ⟨#[109, 111, 100, 105, 102, 121]⟩) w := by kernel_rfl
    go_enter Tryz.func133, Tryz.ntmps133
    go_wp2
    go_ret
    exact ⟨rfl, rfl⟩
  · have hix : (Instr.index 274 (.agg #[.string ⟨#[97, 100, 100]⟩, .string ⟨#[100, 101, 108, 101, 116, 101]⟩, .string ⟨#[109, 111, 100, 105, 102, 121]⟩, .string ⟨#[109, 111, 100, 114, 100, 110]⟩]) (.int .i64 3)).run Tryz.prog w = .ok (.string ⟨#[109, 111, 100, 114, 100, 110]⟩) w := by kernel_rfl
    go_enter Tryz.func133, Tryz.ntmps133
    go_wp2
    go_ret
    exact ⟨rfl, rfl⟩
def chgA (c : Chg) (vA vM : Value) : Array Value :=
  #[.string ⟨c.time.toArray⟩, .string ⟨c.who.toArray⟩, .string ⟨c.dn.toArray⟩, .int .i64 c.kind, vA, vM, .string ⟨c.newRdn.toArray⟩, .string ⟨c.newSup.toArray⟩, .bool c.delOld, .bool c.hasSup]
def Small (c : Chg) : Prop :=
  (c.time.length ≤ 1000000000 ∧ c.who.length ≤ 1000000000 ∧ c.dn.length ≤ 1000000000 ∧ c.newRdn.length ≤ 1000000000 ∧ c.newSup.length ≤ 1000000000) ∧
  c.attrs.length ≤ 1000000000 ∧ c.mods.length ≤ 1000000000 ∧
  (∀ x ∈ c.attrs, x.1.length ≤ 1000000000 ∧ x.2.length ≤ 1000000000 ∧ ∀ v ∈ x.2, v.length ≤ 1000000000) ∧
  (∀ x ∈ c.mods, x.2.1.length ≤ 1000000000 ∧ x.2.2.length ≤ 1000000000 ∧ ∀ v ∈ x.2.2, v.length ≤ 1000000000) ∧
  (rightC c = true → (textC c).length ≤ 1000000000)
theorem right_any (c : Chg) (vA vM : Value) (w : World) (hA : AttrsAt w vA c.attrs) (hM : ModsAt w vM c.mods) (hE : Env w) (hS : Small c) :
    Calls Tryz.prog 131 #[.agg (chgA c vA vM)] w fun e w' => e = .returned (.bool (rightC c)) ∧ Below w.heap.size w w' := by
  obtain ⟨time, who, dn, kind, attrs, mods, newRdn, newSup, delOld, hasSup⟩ := c
  obtain ⟨_, h2, h3, h4, h5, _⟩ := hS
  simp only at h2 h3 h4 h5 hA hM
  have hA' := hA
  have hM' := hM
  obtain ⟨aA, cA, rfl, hcA, _⟩ := hA
  obtain ⟨aM, cM, rfl, hcM, _⟩ := hM
  unfold chgA
  by_cases hk : kind < 0 ∨ 3 < kind
  · have e : rightC ⟨time, who, dn, kind, attrs, mods, newRdn, newSup, delOld, hasSup⟩ = false := by
      simp only [rightC, onlyC]
      rcases hk with h | h
      · simp [show ¬ 0 ≤ kind by omega]
      · simp [show ¬ kind ≤ 3 by omega]
    rw [e]
    exact right_kind kind time who dn newRdn newSup aA aM attrs.length cA mods.length cM delOld hasSup w hk
  · have k0 : 0 ≤ kind := by omega
    have k3 : kind ≤ 3 := by omega
    by_cases h3' : kind ≠ 0 ∧ 0 < attrs.length ∨ kind ≠ 2 ∧ 0 < mods.length ∨ newSup ≠ [] ∧ hasSup = false
    · have e : rightC ⟨time, who, dn, kind, attrs, mods, newRdn, newSup, delOld, hasSup⟩ = false := by
        simp only [rightC, onlyC]
        rcases h3' with ⟨h, h'⟩ | ⟨h, h'⟩ | ⟨h, h'⟩
        · have : attrs.isEmpty = false := by simpa using List.length_pos_iff.1 h'
          simp [h, this]
        · have : mods.isEmpty = false := by simpa using List.length_pos_iff.1 h'
          simp [h, this]
        · simp [h, h']
      rw [e]
      exact right_three kind time who dn newRdn newSup aA aM attrs.length cA mods.length cM delOld hasSup w k0 k3 h3'
    · by_cases h5' : kind ≠ 3 ∧ (newRdn ≠ [] ∨ delOld = true ∨ hasSup = true)
      · have e : rightC ⟨time, who, dn, kind, attrs, mods, newRdn, newSup, delOld, hasSup⟩ = false := by
          simp only [rightC, onlyC]
          obtain ⟨h, h' | h' | h'⟩ := h5'
          · simp [h, h']
          · simp [h, h']
          · simp [h, h']
        rw [e]
        exact right_five kind time who dn newRdn newSup aA aM attrs.length cA mods.length cM delOld hasSup w k0 k3 h5'
      · have hkk : kind = 0 ∨ kind = 1 ∨ kind = 2 ∨ kind = 3 := by omega
        have n1 : newSup = [] ∨ hasSup = true := by
          by_cases h : newSup = []
          · exact .inl h
          · right
            cases hasSup
            · exact absurd (.inr (.inr ⟨h, rfl⟩)) h3'
            · rfl
        rcases hkk with rfl | rfl | rfl | rfl
        · have hm0 : mods = [] := by
            by_cases h : mods = []
            · exact h
            · exact absurd (.inr (.inl ⟨by omega, List.length_pos_iff.2 h⟩)) h3'
          have hr : newRdn = [] ∧ delOld = false ∧ hasSup = false := by
            refine ⟨Decidable.byContradiction fun h => h5' ⟨by omega, .inl h⟩, ?_, ?_⟩
            · cases delOld
              · rfl
              · exact absurd ⟨by omega, .inr (.inl rfl)⟩ h5'
            · cases hasSup
              · rfl
              · exact absurd ⟨by omega, .inr (.inr rfl)⟩ h5'
          obtain ⟨rfl, rfl, rfl⟩ := hr
          obtain rfl : newSup = [] := by simpa using n1
          subst hm0
          have e : rightC ⟨time, who, dn, 0, attrs, [], [], [], false, false⟩ = attrsOk none attrs := by simp [rightC, onlyC, modsOk]
          rw [e]
          exact right_add time who dn aA aM cA cM attrs w hA' hE (by omega) (fun x hx => ⟨by have := (h4 x hx).1; omega, by have := (h4 x hx).2.1; omega⟩)
        · have hm0 : mods = [] := by
            by_cases h : mods = []
            · exact h
            · exact absurd (.inr (.inl ⟨by omega, List.length_pos_iff.2 h⟩)) h3'
          have ha0 : attrs = [] := by
            by_cases h : attrs = []
            · exact h
            · exact absurd (.inl ⟨by omega, List.length_pos_iff.2 h⟩) h3'
          have hr : newRdn = [] ∧ delOld = false ∧ hasSup = false := by
            refine ⟨Decidable.byContradiction fun h => h5' ⟨by omega, .inl h⟩, ?_, ?_⟩
            · cases delOld
              · rfl
              · exact absurd ⟨by omega, .inr (.inl rfl)⟩ h5'
            · cases hasSup
              · rfl
              · exact absurd ⟨by omega, .inr (.inr rfl)⟩ h5'
          obtain ⟨rfl, rfl, rfl⟩ := hr
          obtain rfl : newSup = [] := by simpa using n1
          subst hm0 ha0
          have e : rightC ⟨time, who, dn, 1, [], [], [], [], false, false⟩ = true := by simp [rightC, onlyC, modsOk, attrsOk]
          rw [e]
          exact right_gone time who dn aA aM cA cM w
        · have ha0 : attrs = [] := by
            by_cases h : attrs = []
            · exact h
            · exact absurd (.inl ⟨by omega, List.length_pos_iff.2 h⟩) h3'
          have hr : newRdn = [] ∧ delOld = false ∧ hasSup = false := by
            refine ⟨Decidable.byContradiction fun h => h5' ⟨by omega, .inl h⟩, ?_, ?_⟩
            · cases delOld
              · rfl
              · exact absurd ⟨by omega, .inr (.inl rfl)⟩ h5'
            · cases hasSup
              · rfl
              · exact absurd ⟨by omega, .inr (.inr rfl)⟩ h5'
          obtain ⟨rfl, rfl, rfl⟩ := hr
          obtain rfl : newSup = [] := by simpa using n1
          subst ha0
          have e : rightC ⟨time, who, dn, 2, [], mods, [], [], false, false⟩ = modsOk mods := by simp [rightC, onlyC, attrsOk]
          rw [e]
          exact right_mod time who dn aA aM cA cM mods w hM' hE (by omega) (fun x hx => by have := (h5 x hx).1; omega)
        · have hm0 : mods = [] := by
            by_cases h : mods = []
            · exact h
            · exact absurd (.inr (.inl ⟨by omega, List.length_pos_iff.2 h⟩)) h3'
          have ha0 : attrs = [] := by
            by_cases h : attrs = []
            · exact h
            · exact absurd (.inl ⟨by omega, List.length_pos_iff.2 h⟩) h3'
          subst hm0 ha0
          have e : rightC ⟨time, who, dn, 3, [], [], newRdn, newSup, delOld, hasSup⟩ = true := by
            rcases n1 with h | h <;> simp [rightC, onlyC, modsOk, attrsOk, h]
          rw [e]
          cases hasSup with
          | false =>
            obtain rfl : newSup = [] := by simpa using n1
            exact right_moved time who dn newRdn aA aM cA cM delOld w
          | true =>
            cases newSup with
            | nil => exact right_beneath time who dn newRdn aA aM cA cM delOld w
            | cons x t => exact right_under time who dn newRdn x t aA aM cA cM delOld w
theorem mods_okM (ms : List Md) (h : modsOk ms = true) : ∀ m ∈ ms, 0 ≤ m.1 ∧ m.1 ≤ 2 := by
  intro m hm
  have := List.all_eq_true.1 h m hm
  simp only [Bool.and_eq_true, decide_eq_true_eq] at this
  exact this.1
theorem restC_le (c : Chg) : (headC c).length + (restC c).length + 1 = (textC c).length := by
  simp [textC]
  omega
theorem rest_any (B b : Nat) (l : List UInt8) (w0 w : World) (c : Chg) (vA vM : Value) (hW : IsW B b l w) (h0 : Below w0.heap.size w0 w) (hB0 : w0.heap.size ≤ B) (hBw : B ≤ w.heap.size)
    (hA : AttrsAt w0 vA c.attrs) (hM : ModsAt w0 vM c.mods) (hS : Small c) (hl : l.length + (restC c).length ≤ 1000000000) (hk : 0 ≤ c.kind ∧ c.kind ≤ 3) (hm : modsOk c.mods = true) :
    Calls Tryz.prog 134 #[.pointer (some ⟨b, 0, none⟩), .agg (chgA c vA vM)] w fun e w' => e = .returned (.tuple #[]) ∧ (IsW B b (l ++ restC c) w' ∧ Below B w w') := by
  obtain ⟨time, who, dn, kind, attrs, mods, newRdn, newSup, delOld, hasSup⟩ := c
  obtain ⟨h1, h2, h3, h4, h5, _⟩ := hS
  simp only at h1 h2 h3 h4 h5 hA hM hk hm
  unfold chgA
  have hkk : kind = 0 ∨ kind = 1 ∨ kind = 2 ∨ kind = 3 := by omega
  rcases hkk with rfl | rfl | rfl | rfl
  · have e : restC ⟨time, who, dn, 0, attrs, mods, newRdn, newSup, delOld, hasSup⟩ = attrB attrs := by simp [restC]
    rw [e] at hl ⊢
    exact rest_kind0 B b l w0 w _ _ _ vM _ _ _ _ hW h0 hB0 hBw vA attrs hA (by omega) (by omega) (fun x hx => ⟨by have := (h4 x hx).1; omega, by have := (h4 x hx).2.1; omega, fun v hv => by have := (h4 x hx).2.2 v hv; omega⟩)
  · exact rest_kind1 B b l w0 w _ _ _ vA vM _ _ _ _ hW h0 hB0 hBw
  · have e : restC ⟨time, who, dn, 2, attrs, mods, newRdn, newSup, delOld, hasSup⟩ = modB mods := by simp [restC]
    rw [e] at hl ⊢
    exact rest_kind2 B b l w0 w _ _ _ vA _ _ _ _ hW h0 hB0 hBw vM mods hM (by omega) (by omega) (fun x hx => ⟨(mods_okM mods hm x hx), by have := (h5 x hx).1; omega, by have := (h5 x hx).2.1; omega, fun v hv => by have := (h5 x hx).2.2 v hv; omega⟩)
  · have e : restC ⟨time, who, dn, 3, attrs, mods, newRdn, newSup, delOld, hasSup⟩ = moveB ⟨time, who, dn, 3, attrs, mods, newRdn, newSup, delOld, hasSup⟩ := by simp [restC]
    rw [e] at hl ⊢
    exact rest_kind3 B b l w0 w _ _ _ vA vM hW h0 hB0 hBw ⟨time, who, dn, 3, attrs, mods, newRdn, newSup, delOld, hasSup⟩ (by omega) (by simpa using h1.2.2.2.1) (by simpa using h1.2.2.2.2)
theorem IsW_new (w : World) : IsW w.heap.size w.heap.size [] (w.alloc (.cells #[.pointer none, .slice none 0 0] 157)) :=
  .inl ⟨Nat.le_refl _, .slice none 0 0, alloc_at _ _ _ rfl, World.ownsRow_nil _ _ _ _, by simp [Value.ownBlock]⟩
theorem chg_cells {g : Nat} {c : Chg} {vA vM : Value} {W : World} (h : W.heap[g]? = some (.cells (chgA c vA vM) 47 (0, 0))) :
    (W.cell? ⟨g, 0, none⟩ = some (.string ⟨c.time.toArray⟩) ∧ W.cell? ⟨g, 1, none⟩ = some (.string ⟨c.who.toArray⟩) ∧ W.cell? ⟨g, 2, none⟩ = some (.string ⟨c.dn.toArray⟩) ∧ W.cell? ⟨g, 3, none⟩ = some (.int .i64 c.kind)) ∧
    W.cell? ⟨g, 4, none⟩ = some vA ∧ W.cell? ⟨g, 5, none⟩ = some vM ∧ W.cell? ⟨g, 6, none⟩ = some (.string ⟨c.newRdn.toArray⟩) ∧ W.cell? ⟨g, 7, none⟩ = some (.string ⟨c.newSup.toArray⟩) ∧ W.cell? ⟨g, 8, none⟩ = some (.bool c.delOld) ∧ W.cell? ⟨g, 9, none⟩ = some (.bool c.hasSup) := by
  refine ⟨⟨?_, ?_, ?_, ?_⟩, ?_, ?_, ?_, ?_, ?_, ?_⟩ <;> (rw [Lib.cell_of_heap h]; rfl)
theorem Print_no (c : Chg) (vA vM : Value) (w : World) (hA : AttrsAt w vA c.attrs) (hM : ModsAt w vM c.mods) (hE : Env w) (hS : Small c) (hr : rightC c = false) :
    Calls Tryz.prog 29 #[.agg (chgA c vA vM)] w fun e w' => e = .returned (.tuple #[.string ⟨#[]⟩, .int .i64 110]) ∧ Below w.heap.size w w' := by
  have b1 : Below w.heap.size w (w.alloc (.cells (chgA c vA vM) 47)) := (Below.refl _ _).alloc (Nat.le_refl _) _
  have k0 := right_any c vA vM (w.alloc (.cells (chgA c vA vM) 47)) (hA.below b1) (hM.below b1) (hE.below b1) hS
  rw [hr] at k0
  unfold chgA at b1 k0 ⊢
  clear hr hA hM
  go_enter Tryz.func29, Tryz.ntmps29
  go_wp2_with (go_at_call 131; refine Calls.mono (show Calls _ _ _ _ _ from k0) ?_; rintro e w1 ⟨rfl, hb1⟩)
  go_ret2
  exact ⟨rfl, b1.trans (hb1.mono (by simp))⟩
theorem Print_yes (c : Chg) (vA vM : Value) (w : World) (hA : AttrsAt w vA c.attrs) (hM : ModsAt w vM c.mods) (hE : Env w) (hS : Small c) (hr : rightC c = true) :
    Calls Tryz.prog 29 #[.agg (chgA c vA vM)] w fun e w' => e = .returned (.tuple #[.string ⟨(printC c).1.toArray⟩, .int .i64 (printC c).2]) ∧ Below w.heap.size w w' := by
  have hkind : 0 ≤ c.kind ∧ c.kind ≤ 3 := by
    simp only [rightC, onlyC, Bool.and_eq_true, decide_eq_true_eq] at hr
    exact ⟨hr.1.1.1.1.1.1.1, hr.1.1.1.1.1.1.2⟩
  have hmods : modsOk c.mods = true := by
    simp only [rightC, Bool.and_eq_true] at hr
    exact hr.2
  have hlen := hS.2.2.2.2.2 hr
  have hrl := restC_le c
  have hhead : (headC c).length = (lineB [116, 105, 109, 101] c.time).length + (lineB [119, 104, 111] c.who).length + (lineB [100, 110] c.dn).length + (lineB [99, 104, 97, 110, 103, 101, 116, 121, 112, 101] (kindW c.kind)).length := by
    simp [headC]; omega
  have hpr : printC c = if 65536 < (textC c).length then ([], 2) else (textC c, 0) := by simp [printC, hr]
  have hs1 := hS.1
  have b0 : Below w.heap.size w (w.alloc (.cells (chgA c vA vM) 47)) := (Below.refl _ _).alloc (Nat.le_refl _) _
  have k0 := right_any c vA vM (w.alloc (.cells (chgA c vA vM) 47)) (hA.below b0) (hM.below b0) (hE.below b0) hS
  rw [hr] at k0
  have hkb : (w.alloc (.cells (chgA c vA vM) 47)).heap[w.heap.size]? = some (.cells (chgA c vA vM) 47 (0, 0)) := alloc_at _ _ _ rfl
  have hszb : w.heap.size < (w.alloc (.cells (chgA c vA vM) 47)).heap.size := by simp
  obtain ⟨T, hT⟩ : ∃ T, textC c = T := ⟨_, rfl⟩
  have HTX := Lib.hid hT
  have HPR := Lib.hid hpr
  have HS := Lib.hid hS
  have HR := Lib.hid hr
  rw [hT] at hlen
  rw [hT] at hrl
  have HM := Lib.hid hmods
  have HRL := Lib.hid hrl
  have HHD := Lib.hid hhead
  obtain ⟨PS, hPS⟩ : ∃ P, (printC c).1 = P := ⟨_, rfl⟩
  obtain ⟨PE, hPE⟩ : ∃ P, (printC c).2 = P := ⟨_, rfl⟩
  rw [hPS, hPE]
  have HPS := Lib.hid hPS
  have HPE := Lib.hid hPE
  have HA := Lib.hid hA
  have HMo := Lib.hid hM
  clear hT hpr hS hr hmods hrl hhead hPS hPE hA hM
  have hun : chgA c vA vM = #[.string ⟨c.time.toArray⟩, .string ⟨c.who.toArray⟩, .string ⟨c.dn.toArray⟩, .int .i64 c.kind, vA, vM, .string ⟨c.newRdn.toArray⟩, .string ⟨c.newSup.toArray⟩, .bool c.delOld, .bool c.hasSup] := rfl
  rw [hun] at k0 b0 hszb ⊢
  have HUN := Lib.hid hun
  have HKB := Lib.hid hkb
  clear hun hkb
  go_enter Tryz.func29, Tryz.ntmps29
  go_wp2_with (go_at_call 131; refine Calls.mono (show Calls _ _ _ _ _ from k0) ?_; rintro e w1 ⟨rfl, hb1⟩; have hc1 := (hb1.block w.heap.size hszb).trans HKB.out; have hlt1 : w.heap.size < w1.heap.size := Nat.lt_of_lt_of_le hszb hb1.size; have hb01 := b0.trans (hb1.mono (Nat.le_of_lt hszb)); clear k0 HKB; have hc2 := (Lib.alloc_old w1 (.cells #[.pointer none, .slice none 0 0] 157) w.heap.size hlt1).trans hc1; obtain ⟨⟨q0, q1, q2, q3⟩, q4⟩ := chg_cells hc2; clear q4)
  have hS1 := HS.out.1
  obtain ⟨t1, t2, t3, _, _⟩ := hS1
  have hrl := HRL.out
  have hhd := HHD.out
  have hw0 : w.heap.size ≤ w1.heap.size := Nat.le_of_lt hlt1
  refine Calls.mono (line_any w1.heap.size w1.heap.size [] [116, 105, 109, 101] c.time _ (IsW_new w1) (by simp) (by simp) (by omega) (by simp)) ?_
  rintro e w2 ⟨rfl, hw2, hb2, _⟩
  clear q0 q1 q2 q3
  have hc3 := (hb2.block w.heap.size hlt1).trans hc2
  obtain ⟨⟨q0, q1, q2, q3⟩, q4⟩ := chg_cells hc3
  clear q4
  have z2 : w1.heap.size ≤ w2.heap.size := Nat.le_trans (by simp) hb2.size
  obtain ⟨a1, ha1⟩ : ∃ l, lineB [116, 105, 109, 101] c.time = l := ⟨_, rfl⟩
  rw [ha1, List.nil_append] at hw2
  rw [ha1] at hhd
  obtain ⟨a2, ha2⟩ : ∃ l, lineB [119, 104, 111] c.who = l := ⟨_, rfl⟩
  rw [ha2] at hhd
  obtain ⟨a3, ha3⟩ : ∃ l, lineB [100, 110] c.dn = l := ⟨_, rfl⟩
  rw [ha3] at hhd
  obtain ⟨a4, ha4⟩ : ∃ l, lineB [99, 104, 97, 110, 103, 101, 116, 121, 112, 101] (kindW c.kind) = l := ⟨_, rfl⟩
  rw [ha4] at hhd
  have htx : T = a1 ++ a2 ++ a3 ++ a4 ++ restC c ++ [10] := by rw [← HTX.out, ← ha1, ← ha2, ← ha3, ← ha4]; rfl
  have HTT := Lib.hid htx
  have HA1 := Lib.hid ha1
  have HA2 := Lib.hid ha2
  have HA3 := Lib.hid ha3
  have HA4 := Lib.hid ha4
  have x1 : a1.length ≤ 1000000000 := by omega
  have x2 : (a1 ++ a2).length ≤ 1000000000 := by rw [List.length_append]; omega
  have x3 : (a1 ++ a2 ++ a3).length ≤ 1000000000 := by rw [List.length_append, List.length_append]; omega
  have x4 : (a1 ++ a2 ++ a3 ++ a4).length + (restC c).length ≤ 1000000000 := by rw [List.length_append, List.length_append, List.length_append]; omega
  have x5 : (a1 ++ a2 ++ a3 ++ a4 ++ restC c).length ≤ 1000000000 := by rw [List.length_append]; exact x4
  clear htx ha1 ha2 ha3 ha4 hrl hhd HRL HHD
  go_wp2_with fail
  refine Calls.mono (line_any w1.heap.size w1.heap.size a1 [119, 104, 111] c.who w2 hw2 (by omega) (by simp) (by omega) z2) ?_
  rintro e w3 ⟨rfl, hw3, hb3, _⟩
  clear q0 q1 q2 q3
  have hc4 := (hb3.block w.heap.size hlt1).trans hc3
  obtain ⟨⟨q0, q1, q2, q3⟩, q4⟩ := chg_cells hc4
  clear q4
  have z3 : w1.heap.size ≤ w3.heap.size := Nat.le_trans z2 hb3.size
  rw [HA2.out] at hw3
  go_wp2_with fail
  refine Calls.mono (line_any w1.heap.size w1.heap.size (a1 ++ a2) [100, 110] c.dn w3 hw3 (by omega) (by simp) (by omega) z3) ?_
  rintro e w4 ⟨rfl, hw4, hb4, _⟩
  clear q0 q1 q2 q3
  have hc5 := (hb4.block w.heap.size hlt1).trans hc4
  obtain ⟨⟨q0, q1, q2, q3⟩, q4⟩ := chg_cells hc5
  clear q4
  have z4 : w1.heap.size ≤ w4.heap.size := Nat.le_trans z3 hb4.size
  rw [HA3.out] at hw4
  have kk := fun w' => kindWord_any c.kind w' hkind
  have hkl : (kindW c.kind).length ≤ 10 := by unfold kindW; split <;> (try split) <;> (try split) <;> simp
  obtain ⟨KW, hKW⟩ : ∃ K, kindW c.kind = K := ⟨_, rfl⟩
  rw [hKW] at kk hkl
  have HKW := Lib.hid hKW
  clear hKW
  go_wp2_with (go_at_call 133; refine (kk _).mono ?_; rintro e w' ⟨rfl, rfl⟩)
  refine Calls.mono (line_any w1.heap.size w1.heap.size (a1 ++ a2 ++ a3) [99, 104, 97, 110, 103, 101, 116, 121, 112, 101] KW w4 hw4 (by omega) (by simp) (by omega) z4) ?_
  rintro e w5 ⟨rfl, hw5, hb5, _⟩
  clear q0 q1 q2 q3
  have hc6 := (hb5.block w.heap.size hlt1).trans hc5
  have z5 : w1.heap.size ≤ w5.heap.size := Nat.le_trans z4 hb5.size
  have ha4' : lineB [99, 104, 97, 110, 103, 101, 116, 121, 112, 101] KW = a4 := by rw [← HA4.out, HKW.out]
  rw [ha4'] at hw5
  obtain ⟨⟨q0, q1, q2, q3⟩, q4, q5, q6, q7, q8, q9⟩ := chg_cells hc6
  clear ha4'
  have hb05 : Below w.heap.size w w5 := ((((hb01.alloc hw0 _).trans (hb2.mono hw0)).trans (hb3.mono hw0)).trans (hb4.mono hw0)).trans (hb5.mono hw0)
  have kr := rest_any w1.heap.size w1.heap.size (a1 ++ a2 ++ a3 ++ a4) w w5 c vA vM hw5 hb05 hw0 z5 HA.out HMo.out HS.out x4 hkind HM.out
  rw [HUN.out] at kr
  go_wp2_with (go_at_call 134; refine Calls.mono (show Calls _ _ _ _ _ from kr) ?_; rintro e w6 ⟨rfl, hw6, hb6⟩; have z6 := Nat.le_trans z5 hb6.size)
  refine Calls.mono (W_WriteByte w1.heap.size w1.heap.size (a1 ++ a2 ++ a3 ++ a4 ++ restC c) 10 w6 hw6 (by omega) z6) ?_
  rintro e w7 ⟨rfl, hw7, hb7, _⟩
  rw [← HTT.out] at hw7
  have han : T ≠ [] := by rw [HTT.out]; simp
  have hb07 : Below w.heap.size w w7 := (hb05.trans (hb6.mono hw0)).trans (hb7.mono hw0)
  clear q0 q1 q2 q3 q4 q5 q6 q7 q8 q9
  by_cases hTl : 65536 < T.length
  · have g1 : decide ((65536 : Int) < (T.length : Int)) = true := decide_eq_true (by omega)
    go_wp2_with (go_at_call 136; refine (W_Len _ _ T w7 hw7).mono ?_; rintro e w' ⟨rfl, rfl⟩)
    go_ret2
    have h := HPR.out
    rw [HTX.out, if_pos hTl] at h
    have e1 : [] = PS := by rw [← HPS.out, h]
    have e2 : 2 = PE := by rw [← HPE.out, h]
    subst e1 e2
    exact ⟨rfl, hb07⟩
  · have g1 : decide ((65536 : Int) < (T.length : Int)) = false := decide_eq_false (by omega)
    go_wp2_with (first | (go_at_call 136; refine (W_Len _ _ T w7 hw7).mono ?_; rintro e w' ⟨rfl, rfl⟩) | (go_at_call 137; refine (W_String _ _ T w7 hw7 han).mono ?_; rintro e w8 ⟨rfl, hb8⟩))
    go_ret2
    have h := HPR.out
    rw [HTX.out, if_neg hTl] at h
    have e1 : T = PS := by rw [← HPS.out, h]
    have e2 : 0 = PE := by rw [← HPE.out, h]
    subst e1 e2
    exact ⟨rfl, hb07.trans (hb8.mono hw0)⟩
theorem Print_any (c : Chg) (vA vM : Value) (w : World) (hA : AttrsAt w vA c.attrs) (hM : ModsAt w vM c.mods) (hE : Env w) (hS : Small c) :
    Calls Tryz.prog 29 #[.agg (chgA c vA vM)] w fun e w' => e = .returned (.tuple #[.string ⟨(printC c).1.toArray⟩, .int .i64 (printC c).2]) ∧ Below w.heap.size w w' := by
  cases hr : rightC c with
  | true => exact Print_yes c vA vM w hA hM hE hS hr
  | false =>
    have e : printC c = ([], 110) := by simp [printC, hr]
    rw [e]
    exact Print_no c vA vM w hA hM hE hS hr
def PairsAt (R B : Nat) (w : World) (v : Value) (l : List Pr) : Prop :=
  ∃ a cap, v = .slice a l.length cap ∧ l.length ≤ cap ∧ (l ≠ [] → ∃ g o, a = some ⟨g, o, none⟩ ∧ g ≠ R ∧ g < B ∧ ∀ (j : Nat) (x : Pr), l[j]? = some x → w.cell? ⟨g, o + j * 2, none⟩ = some (.string ⟨x.1.toArray⟩) ∧ w.cell? ⟨g, o + j * 2 + 1, none⟩ = some (.string ⟨x.2.toArray⟩))
def RdAt (w : World) (R B : Nat) (l : List Pr) : Prop :=
  ∃ v, w.heap[R]? = some (.cells #[v] 84 (0, 0)) ∧ PairsAt R B w v l
theorem PairsAt.kept {R B : Nat} {w w' : World} {v : Value} {l : List Pr} (h : PairsAt R B w v l) (hg : ∀ j, j < B → j ≠ R → w'.heap[j]? = w.heap[j]?) : PairsAt R B w' v l := by
  obtain ⟨a, cap, hv, hc, hr⟩ := h
  refine ⟨a, cap, hv, hc, fun h0 => ?_⟩
  obtain ⟨g, o, ha, hgR, hgB, hcell⟩ := hr h0
  refine ⟨g, o, ha, hgR, hgB, fun j x hj => ?_⟩
  obtain ⟨h1, h2⟩ := hcell j x hj
  have hb := hg g hgB hgR
  exact ⟨(World.cell?_of_block (a := ⟨g, o + j * 2, none⟩) hb).trans h1, (World.cell?_of_block (a := ⟨g, o + j * 2 + 1, none⟩) hb).trans h2⟩
theorem RdAt.kept {R B : Nat} {w w' : World} {l : List Pr} (h : RdAt w R B l) (hg : ∀ j, j < B ∨ j = R → w'.heap[j]? = w.heap[j]?) : RdAt w' R B l := by
  obtain ⟨v, h1, h2⟩ := h
  exact ⟨v, (hg R (.inr rfl)).trans h1, h2.kept (fun j hj _ => hg j (.inl hj))⟩
theorem PairsAt.tail {R B : Nat} {w : World} {a : Option Addr} {cap : Nat} {g o : Nat} {p : Pr} {t : List Pr} (hc : t.length + 1 ≤ cap) (hgR : g ≠ R) (hgB : g < B)
    (h : ∀ (j : Nat) (x : Pr), (p :: t)[j]? = some x → w.cell? ⟨g, o + j * 2, none⟩ = some (.string ⟨x.1.toArray⟩) ∧ w.cell? ⟨g, o + j * 2 + 1, none⟩ = some (.string ⟨x.2.toArray⟩))
    (ha : t ≠ [] → a = some ⟨g, o + 2, none⟩) : PairsAt R B w (.slice a t.length (cap - 1)) t :=
  ⟨a, cap - 1, rfl, by omega, fun h0 => ⟨g, o + 2, ha h0, hgR, hgB, fun j x hj => by
    have := h (j + 1) x (by simpa using hj)
    rw [show o + 2 + j * 2 = o + (j + 1) * 2 by omega]
    exact this⟩⟩
theorem setCell_one {w : World} {R : Nat} {v u : Value} {t : TypeId} (h : w.heap[R]? = some (.cells #[v] t (0, 0))) : (w.setCell ⟨R, 0, none⟩ u).heap[R]? = some (.cells #[u] t (0, 0)) := by
  simp [World.setCell, Array.getElem?_modify, h]
theorem grown_set (w : World) (b i : Nat) (v : Value) : w.grownBy (w.setCell ⟨b, i, none⟩ v) (some b) :=
  ⟨rfl, rfl, rfl, Nat.le_of_eq (by simp), fun k _ hne => Below.heap_setCell w ⟨b, i, none⟩ v k (fun e => hne (congrArg some e))⟩
theorem grown_below {w w' : World} {row : Option Nat} (h : Below w.heap.size w w') : w.grownBy w' row := ⟨h.os, h.tape, h.output, h.size, fun k hk _ => h.block k hk⟩
theorem rd_done {w w1 : World} {R B : Nat} (hBw : B ≤ w.heap.size) {v v' : Value} {t : List Pr} (hR : w.heap[R]? = some (.cells #[v] 84 (0, 0))) (hP : PairsAt R B w v' t)
    (hb : Below (w.setCell ⟨R, 0, none⟩ v').heap.size (w.setCell ⟨R, 0, none⟩ v') w1) : RdAt w1 R B t ∧ w.grownBy w1 (some R) := by
  have g1 := grown_set w R 0 v'
  have g2 := g1.trans (grown_below (row := some R) hb)
  have hs := setCell_one (u := v') hR
  exact ⟨⟨v', (hb.block R (Array.getElem?_eq_some_iff.1 hs).1).trans hs, hP.kept (fun j hj hne => g2.block j (by omega) (fun e => hne (by injection e)))⟩, g2⟩
theorem Clone_any (s : List UInt8) (w : World) (hs : s.length ≤ 1099511627776) :
    Calls Tryz.prog 145 #[.string ⟨s.toArray⟩] w fun e w' => e = .returned (.string ⟨s.toArray⟩) ∧ Below w.heap.size w w' := by
  have hz : (⟨s.toArray⟩ : ByteArray).size ≤ 281474976710656 := by rw [Lib.size_mk]; omega
  go_enter Tryz.func145, Tryz.ntmps145
  go_wp2_with (go_at_call 230; refine Calls.mono (show Calls _ _ _ _ _ from Tryz.stringslite_Clone _ _ hz) ?_; rintro e w1 ⟨rfl, hb1⟩)
  go_ret
  exact ⟨rfl, hb1⟩
theorem next_any (R B : Nat) (n : List UInt8) (l : List Pr) (w : World) (h : RdAt w R B l) (hBw : B ≤ w.heap.size) (hn : ∀ p ∈ l, p.2.length ≤ 1000000000) (hl : l.length ≤ 1000000000) :
    Calls Tryz.prog 144 #[.pointer (some ⟨R, 0, none⟩), .string ⟨n.toArray⟩] w fun e w' => e = .returned (.tuple #[.string ⟨(nxV n l).toArray⟩, .bool (nxB n l)]) ∧ RdAt w' R B (nxL n l) ∧ w.grownBy w' (some R) := by
  obtain ⟨v, hR, hP⟩ := h
  have hP' := hP
  obtain ⟨a, cap, rfl, hc, hr⟩ := hP
  have hcell : w.cell? ⟨R, 0, none⟩ = some (.slice a l.length cap) := by rw [Lib.cell_of_heap hR]; rfl
  have hfr : w.frozen? ⟨R, 0, none⟩ = false := Lib.frozen_of_heap hR 0
  cases l with
  | nil =>
    go_enter Tryz.func144, Tryz.ntmps144
    go_wp2_with fail
    go_ret2
    exact ⟨rfl, ⟨_, hR, hP'⟩, World.grownBy.refl _ _⟩
  | cons p t =>
    obtain ⟨g, o, rfl, hgR, hgB, hcc⟩ := hr (by simp)
    have c0 := (hcc 0 p rfl).1
    have c1 := (hcc 0 p rfl).2
    rw [Nat.zero_mul, Nat.add_zero] at c0 c1
    have hlen : (p :: t).length = t.length + 1 := rfl
    rw [hlen] at hcell hc hR
    by_cases hpn : p.1 = n
    · have e1 : nxV n (p :: t) = p.2 := by simp [nxV, hpn]
      have e2 : nxB n (p :: t) = true := by simp [nxB, hpn]
      have e3 : nxL n (p :: t) = t := by simp [nxL, hpn]
      rw [e1, e2, e3]
      have hv := hn p (by simp)
      have b1 : (n == n) = true := by simp
      have htl : t.length ≤ 1000000000 := by simp at hl; omega
      rw [hpn] at c0
      have kc := fun w' => Clone_any p.2 w' (by omega)
      by_cases hcap : cap = 1
      · subst hcap
        have ht0 : t = [] := List.length_eq_zero_iff.1 (by omega)
        subst ht0
        have HC := Lib.hid hcc
        clear e1 e2 e3 hcc hr hP' hlen hpn
        go_enter Tryz.func144, Tryz.ntmps144
        go_wp2_with (go_at_call 145; refine Calls.mono (show Calls _ _ _ _ _ from kc _) ?_; rintro e w1 ⟨rfl, hb1⟩)
        go_ret2
        exact ⟨rfl, rd_done hBw hR (PairsAt.tail (a := some ⟨g, o, none⟩) (cap := 1) (t := []) (p := p) (by simp) hgR hgB HC.out (fun h => absurd rfl h)) hb1⟩
      · have hc2 : decide ((1 : Int) < (cap : Int)) = true := decide_eq_true (by omega)
        have hcap1 : ¬ (1 = cap) := fun e => hcap e.symm
        have hcap2 : ¬ (cap = 1) := hcap
        have hcp : 1 ≤ cap := by omega
        have HC := Lib.hid hcc
        clear e1 e2 e3 hcc hr hP' hlen hpn
        go_enter Tryz.func144, Tryz.ntmps144
        go_wp2_with (go_at_call 145; refine Calls.mono (show Calls _ _ _ _ _ from kc _) ?_; rintro e w1 ⟨rfl, hb1⟩)
        go_ret2
        exact ⟨rfl, rd_done hBw hR (PairsAt.tail (a := some ⟨g, o + 2, none⟩) (p := p) (by omega) hgR hgB HC.out (fun h => rfl)) hb1⟩
    · have e1 : nxV n (p :: t) = [] := by simp [nxV, hpn]
      have e2 : nxB n (p :: t) = false := by simp [nxB, hpn]
      have e3 : nxL n (p :: t) = p :: t := by simp [nxL, hpn]
      rw [e1, e2, e3]
      have b1 : (p.1 == n) = false := by simp [hpn]
      clear e1 e2 e3 hcc hr
      go_enter Tryz.func144, Tryz.ntmps144
      go_wp2_with fail
      go_ret2
      exact ⟨rfl, ⟨_, hR, hP'⟩, World.grownBy.refl _ _⟩
theorem next_no (R B : Nat) (n : List UInt8) (l : List Pr) (w : World) (h : RdAt w R B l) (hno : nxB n l = false) :
    Calls Tryz.prog 144 #[.pointer (some ⟨R, 0, none⟩), .string ⟨n.toArray⟩] w fun e w' => e = .returned (.tuple #[.string ⟨#[]⟩, .bool false]) ∧ w = w' := by
  obtain ⟨v, hR, hP⟩ := h
  obtain ⟨a, cap, rfl, hc, hr⟩ := hP
  have hcell : w.cell? ⟨R, 0, none⟩ = some (.slice a l.length cap) := by rw [Lib.cell_of_heap hR]; rfl
  cases l with
  | nil =>
    go_enter Tryz.func144, Tryz.ntmps144
    go_wp2_with fail
    go_ret2
    exact ⟨rfl, rfl⟩
  | cons p t =>
    obtain ⟨g, o, rfl, hgR, hgB, hcc⟩ := hr (by simp)
    have c0 := (hcc 0 p rfl).1
    rw [Nat.zero_mul, Nat.add_zero] at c0
    have hlen : (p :: t).length = t.length + 1 := rfl
    rw [hlen] at hcell hc hR
    have b1 : (p.1 == n) = false := hno
    have hpn : ¬ p.1 = n := by simpa using b1
    clear hcc hr hno
    go_enter Tryz.func144, Tryz.ntmps144
    go_wp2_with fail
    go_ret2
    exact ⟨rfl, rfl⟩
end Go.Proofs.YtegigcneimjimaaGreatDoor
