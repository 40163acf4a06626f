/- ldif.right and ldif.Print: every record. -/
import Derived.Test.YtehpdodjncabkaaDoorLdG
import Derived.Test.YtehpdodjncabkaaDoorLdH
import Derived.Test.YtehpdodjncabkaaDoorLdJ
import Derived.Test.YtehpdodjncabkaaDoorLdR
import Derived.Test.YtehpdodjncabkaaDoorLdK
namespace Go.Proofs.YtehpdodjncabkaaDoor
open Go.RowKit Go.Lib

/-- A record's value. -/
def chgA (c : Chg) (vA vM : Value) : Array Value :=
  #[.string ⟨c.time.toArray⟩, .string ⟨c.who.toArray⟩, .string ⟨c.dn.toArray⟩, .int .i64 c.kind, vA, vM, .string ⟨c.newRdn.toArray⟩, .string ⟨c.newSup.toArray⟩, .bool c.delOld, .bool c.hasSup]
/-- A record whose parts can be told of. -/
def Small (c : Chg) : Prop :=
  (c.time.length ≤ 1000000000 ∧ c.who.length ≤ 1000000000 ∧ c.dn.length ≤ 1000000000 ∧ c.newRdn.length ≤ 1000000000 ∧ c.newSup.length ≤ 1000000000) ∧
  c.attrs.length ≤ 1000000000 ∧ c.mods.length ≤ 1000000000 ∧
  (∀ x ∈ c.attrs, x.1.length ≤ 1000000000 ∧ x.2.length ≤ 1000000000 ∧ ∀ v ∈ x.2, v.length ≤ 1000000000) ∧
  (∀ x ∈ c.mods, x.2.1.length ≤ 1000000000 ∧ x.2.2.length ≤ 1000000000 ∧ ∀ v ∈ x.2.2, v.length ≤ 1000000000) ∧
  (rightC c = true → (textC c).length ≤ 1000000000)
theorem right_any (c : Chg) (vA vM : Value) (w : World) (hA : AttrsAt w vA c.attrs) (hM : ModsAt w vM c.mods) (hE : Env w) (hS : Small c) :
    Calls Tryd.prog 20 #[.agg (chgA c vA vM)] w fun e w' => e = .returned (.bool (rightC c)) ∧ Below w.heap.size w w' := by
  obtain ⟨time, who, dn, kind, attrs, mods, newRdn, newSup, delOld, hasSup⟩ := c
  obtain ⟨_, h2, h3, h4, h5, _⟩ := hS
  simp only at h2 h3 h4 h5 hA hM
  have hA' := hA
  have hM' := hM
  obtain ⟨aA, cA, rfl, hcA, _⟩ := hA
  obtain ⟨aM, cM, rfl, hcM, _⟩ := hM
  unfold chgA
  by_cases hk : kind < 0 ∨ 3 < kind
  · have e : rightC ⟨time, who, dn, kind, attrs, mods, newRdn, newSup, delOld, hasSup⟩ = false := by
      simp only [rightC, onlyC]
      rcases hk with h | h
      · simp [show ¬ 0 ≤ kind by omega]
      · simp [show ¬ kind ≤ 3 by omega]
    rw [e]
    exact right_kind kind time who dn newRdn newSup aA aM attrs.length cA mods.length cM delOld hasSup w hk
  · have k0 : 0 ≤ kind := by omega
    have k3 : kind ≤ 3 := by omega
    by_cases h3' : kind ≠ 0 ∧ 0 < attrs.length ∨ kind ≠ 2 ∧ 0 < mods.length ∨ newSup ≠ [] ∧ hasSup = false
    · have e : rightC ⟨time, who, dn, kind, attrs, mods, newRdn, newSup, delOld, hasSup⟩ = false := by
        simp only [rightC, onlyC]
        rcases h3' with ⟨h, h'⟩ | ⟨h, h'⟩ | ⟨h, h'⟩
        · have : attrs.isEmpty = false := by simpa using List.length_pos_iff.1 h'
          simp [h, this]
        · have : mods.isEmpty = false := by simpa using List.length_pos_iff.1 h'
          simp [h, this]
        · simp [h, h']
      rw [e]
      exact right_three kind time who dn newRdn newSup aA aM attrs.length cA mods.length cM delOld hasSup w k0 k3 h3'
    · by_cases h5' : kind ≠ 3 ∧ (newRdn ≠ [] ∨ delOld = true ∨ hasSup = true)
      · have e : rightC ⟨time, who, dn, kind, attrs, mods, newRdn, newSup, delOld, hasSup⟩ = false := by
          simp only [rightC, onlyC]
          obtain ⟨h, h' | h' | h'⟩ := h5'
          · simp [h, h']
          · simp [h, h']
          · simp [h, h']
        rw [e]
        exact right_five kind time who dn newRdn newSup aA aM attrs.length cA mods.length cM delOld hasSup w k0 k3 h5'
      · have hkk : kind = 0 ∨ kind = 1 ∨ kind = 2 ∨ kind = 3 := by omega
        have n1 : newSup = [] ∨ hasSup = true := by
          by_cases h : newSup = []
          · exact .inl h
          · right
            cases hasSup
            · exact absurd (.inr (.inr ⟨h, rfl⟩)) h3'
            · rfl
        rcases hkk with rfl | rfl | rfl | rfl
        · have hm0 : mods = [] := by
            by_cases h : mods = []
            · exact h
            · exact absurd (.inr (.inl ⟨by omega, List.length_pos_iff.2 h⟩)) h3'
          have hr : newRdn = [] ∧ delOld = false ∧ hasSup = false := by
            refine ⟨Decidable.byContradiction fun h => h5' ⟨by omega, .inl h⟩, ?_, ?_⟩
            · cases delOld
              · rfl
              · exact absurd ⟨by omega, .inr (.inl rfl)⟩ h5'
            · cases hasSup
              · rfl
              · exact absurd ⟨by omega, .inr (.inr rfl)⟩ h5'
          obtain ⟨rfl, rfl, rfl⟩ := hr
          obtain rfl : newSup = [] := by simpa using n1
          subst hm0
          have e : rightC ⟨time, who, dn, 0, attrs, [], [], [], false, false⟩ = attrsOk none attrs := by simp [rightC, onlyC, modsOk]
          rw [e]
          exact right_add time who dn aA aM cA cM attrs w hA' hE (by omega) (fun x hx => ⟨by have := (h4 x hx).1; omega, by have := (h4 x hx).2.1; omega⟩)
        · have hm0 : mods = [] := by
            by_cases h : mods = []
            · exact h
            · exact absurd (.inr (.inl ⟨by omega, List.length_pos_iff.2 h⟩)) h3'
          have ha0 : attrs = [] := by
            by_cases h : attrs = []
            · exact h
            · exact absurd (.inl ⟨by omega, List.length_pos_iff.2 h⟩) h3'
          have hr : newRdn = [] ∧ delOld = false ∧ hasSup = false := by
            refine ⟨Decidable.byContradiction fun h => h5' ⟨by omega, .inl h⟩, ?_, ?_⟩
            · cases delOld
              · rfl
              · exact absurd ⟨by omega, .inr (.inl rfl)⟩ h5'
            · cases hasSup
              · rfl
              · exact absurd ⟨by omega, .inr (.inr rfl)⟩ h5'
          obtain ⟨rfl, rfl, rfl⟩ := hr
          obtain rfl : newSup = [] := by simpa using n1
          subst hm0 ha0
          have e : rightC ⟨time, who, dn, 1, [], [], [], [], false, false⟩ = true := by simp [rightC, onlyC, modsOk, attrsOk]
          rw [e]
          exact right_gone time who dn aA aM cA cM w
        · have ha0 : attrs = [] := by
            by_cases h : attrs = []
            · exact h
            · exact absurd (.inl ⟨by omega, List.length_pos_iff.2 h⟩) h3'
          have hr : newRdn = [] ∧ delOld = false ∧ hasSup = false := by
            refine ⟨Decidable.byContradiction fun h => h5' ⟨by omega, .inl h⟩, ?_, ?_⟩
            · cases delOld
              · rfl
              · exact absurd ⟨by omega, .inr (.inl rfl)⟩ h5'
            · cases hasSup
              · rfl
              · exact absurd ⟨by omega, .inr (.inr rfl)⟩ h5'
          obtain ⟨rfl, rfl, rfl⟩ := hr
          obtain rfl : newSup = [] := by simpa using n1
          subst ha0
          have e : rightC ⟨time, who, dn, 2, [], mods, [], [], false, false⟩ = modsOk mods := by simp [rightC, onlyC, attrsOk]
          rw [e]
          exact right_mod time who dn aA aM cA cM mods w hM' hE (by omega) (fun x hx => by have := (h5 x hx).1; omega)
        · have hm0 : mods = [] := by
            by_cases h : mods = []
            · exact h
            · exact absurd (.inr (.inl ⟨by omega, List.length_pos_iff.2 h⟩)) h3'
          have ha0 : attrs = [] := by
            by_cases h : attrs = []
            · exact h
            · exact absurd (.inl ⟨by omega, List.length_pos_iff.2 h⟩) h3'
          subst hm0 ha0
          have e : rightC ⟨time, who, dn, 3, [], [], newRdn, newSup, delOld, hasSup⟩ = true := by
            rcases n1 with h | h <;> simp [rightC, onlyC, modsOk, attrsOk, h]
          rw [e]
          cases hasSup with
          | false =>
            obtain rfl : newSup = [] := by simpa using n1
            exact right_moved time who dn newRdn aA aM cA cM delOld w
          | true =>
            cases newSup with
            | nil => exact right_beneath time who dn newRdn aA aM cA cM delOld w
            | cons x t => exact right_under time who dn newRdn x t aA aM cA cM delOld w
theorem mods_okM (ms : List Md) (h : modsOk ms = true) : ∀ m ∈ ms, 0 ≤ m.1 ∧ m.1 ≤ 2 := by
  intro m hm
  have := List.all_eq_true.1 h m hm
  simp only [Bool.and_eq_true, decide_eq_true_eq] at this
  exact this.1
theorem restC_le (c : Chg) : (headC c).length + (restC c).length + 1 = (textC c).length := by
  simp [textC]
  omega
theorem rest_any (B b : Nat) (l : List UInt8) (w0 w : World) (c : Chg) (vA vM : Value) (hW : IsW B b l w) (h0 : Below w0.heap.size w0 w) (hB0 : w0.heap.size ≤ B) (hBw : B ≤ w.heap.size)
    (hA : AttrsAt w0 vA c.attrs) (hM : ModsAt w0 vM c.mods) (hS : Small c) (hl : l.length + (restC c).length ≤ 1000000000) (hk : 0 ≤ c.kind ∧ c.kind ≤ 3) (hm : modsOk c.mods = true) :
    Calls Tryd.prog 23 #[.pointer (some ⟨b, 0, none⟩), .agg (chgA c vA vM)] w fun e w' => e = .returned (.tuple #[]) ∧ (IsW B b (l ++ restC c) w' ∧ Below B w w') := by
  obtain ⟨time, who, dn, kind, attrs, mods, newRdn, newSup, delOld, hasSup⟩ := c
  obtain ⟨h1, h2, h3, h4, h5, _⟩ := hS
  simp only at h1 h2 h3 h4 h5 hA hM hk hm
  unfold chgA
  have hkk : kind = 0 ∨ kind = 1 ∨ kind = 2 ∨ kind = 3 := by omega
  rcases hkk with rfl | rfl | rfl | rfl
  · have e : restC ⟨time, who, dn, 0, attrs, mods, newRdn, newSup, delOld, hasSup⟩ = attrB attrs := by simp [restC]
    rw [e] at hl ⊢
    exact rest_kind0 B b l w0 w _ _ _ vM _ _ _ _ hW h0 hB0 hBw vA attrs hA (by omega) (by omega) (fun x hx => ⟨by have := (h4 x hx).1; omega, by have := (h4 x hx).2.1; omega, fun v hv => by have := (h4 x hx).2.2 v hv; omega⟩)
  · exact rest_kind1 B b l w0 w _ _ _ vA vM _ _ _ _ hW h0 hB0 hBw
  · have e : restC ⟨time, who, dn, 2, attrs, mods, newRdn, newSup, delOld, hasSup⟩ = modB mods := by simp [restC]
    rw [e] at hl ⊢
    exact rest_kind2 B b l w0 w _ _ _ vA _ _ _ _ hW h0 hB0 hBw vM mods hM (by omega) (by omega) (fun x hx => ⟨(mods_okM mods hm x hx), by have := (h5 x hx).1; omega, by have := (h5 x hx).2.1; omega, fun v hv => by have := (h5 x hx).2.2 v hv; omega⟩)
  · have e : restC ⟨time, who, dn, 3, attrs, mods, newRdn, newSup, delOld, hasSup⟩ = moveB ⟨time, who, dn, 3, attrs, mods, newRdn, newSup, delOld, hasSup⟩ := by simp [restC]
    rw [e] at hl ⊢
    exact rest_kind3 B b l w0 w _ _ _ vA vM hW h0 hB0 hBw ⟨time, who, dn, 3, attrs, mods, newRdn, newSup, delOld, hasSup⟩ (by omega) (by simpa using h1.2.2.2.1) (by simpa using h1.2.2.2.2)
end Go.Proofs.YtehpdodjncabkaaDoor
