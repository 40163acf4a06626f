/- RngT, BgB. -/
import Derived.RegionTactic
import Derived.OrdersHeld
import Derived.Deep.RegionHeld3
import Derived.StillTailTactics
import Derived.Test.YtegigcneimjimaaGreatDoorU15
namespace Go.Proofs.YtegigcneimjimaaGreatDoor
open Go.RowKit Go.Lib
set_option maxRecDepth 100000
set_option maxHeartbeats 16000000
section
variable {P : Program} {md : Region.Mode} {ops : Array Oper} {Q : Exit → Act → World → Prop} {S : World → Prop} {st : Nat}
def anyT (P : Program) (md : Region.Mode) (ops : Array Oper) (Q : Exit → Act → World → Prop) (S : World → Prop) (st : Nat) : Nat → Array Bool → Act → World → Prop
  | 0, listed, a, w => Region.ready md ops listed = [] ∧ Q .normal a w
  | fuel + 1, listed, a, w =>
    (Region.ready md ops listed = [] → Q .normal a w) ∧
    ∀ i ∈ Region.ready md ops listed, wpOp P ops Q i (fun a' w' => ((listed.setIfInBounds i true).getD st false = true ∨ S w') ∧ anyT P md ops Q S st fuel (listed.setIfInBounds i true) a' w') a w
theorem any_of_anyT : ∀ (fuel : Nat) (listed : Array Bool) (a : Act) (w : World), anyT P md ops Q S st fuel listed a w → wpAny P md ops Q fuel listed a w
  | 0, _, _, _, h => h
  | fuel + 1, _, _, _, h => ⟨h.1, fun i hi => wpOp_mono (fun a' w' h' => any_of_anyT fuel _ a' w' h'.2) (h.2 i hi)⟩
theorem anyT_first {i : Nat} {oi ost : Oper} {v : Value} (hi : ops[i]? = some oi) (hist : i ≠ st) (host : ops[st]? = some ost) (hwait : ∃ e ∈ ost.after, Region.binds md e = true ∧ e.on = i)
    (hsel : ∀ (j : Nat) (o : Oper) cs b, ops[j]? = some o → o.op ≠ .select cs b) (hQ : ∀ c a w, Q (.panic c) (a.put oi.dst v) w → Q (.panic c) a w) :
    ∀ (fuel : Nat) (listed : Array Bool) (a : Act) (w : World),
      (∀ j oj, ops[j]? = some oj → j ≠ i → listed.getD j true = false → (∀ e ∈ oj.after, Region.binds md e = true → e.on ≠ i) → oi.apart ops oj = true) →
      i ∈ Region.ready md ops listed → YieldsIf P ops S oi v a → listed.getD st false = false → S w →
      anyT P md ops Q S st fuel (listed.setIfInBounds i true) (a.put oi.dst v) w → anyT P md ops Q S st (fuel + 1) listed a w := by
  intro fuel
  induction fuel with
  | zero =>
    intro listed a w _ hr hy _ hS H
    refine ⟨fun h => (by rw [h] at hr; cases hr), fun j hj => ?_⟩
    by_cases hji : j = i
    · subst hji; exact hy.wpOp hi hS ⟨.inr hS, H⟩
    · have := ready_mono hj hji
      rw [H.1] at this
      cases this
  | succ fuel ih =>
    intro listed a w hfree hr hy hst hS H
    refine ⟨fun h => (by rw [h] at hr; cases hr), fun j hj => ?_⟩
    by_cases hji : j = i
    · subst hji; exact hy.wpOp hi hS ⟨.inr hS, H⟩
    · have h1 := H.2 j (ready_mono hj hji)
      obtain ⟨hjun, oj, hoj, hall⟩ := mem_ready.1 hj
      have hnot : ∀ e ∈ oj.after, Region.binds md e = true → e.on ≠ i := fun e he hb heq => by
        have h1 := hall e he hb
        have h0 := (mem_ready.1 hr).1
        rw [heq] at h1
        rcases Nat.lt_or_ge i listed.size with h' | h'
        · simp [h'] at h0 h1; rw [h0] at h1; cases h1
        · simp [Array.getElem?_eq_none h'] at h1
      have hjst : j ≠ st := by
        rintro rfl
        obtain ⟨e, he, hb, heq⟩ := hwait
        rw [host] at hoj
        cases hoj
        exact hnot e he hb heq
      have hs1 : (listed.setIfInBounds j true).getD st false = false := by rw [getD_set_ne false hjst]; exact hst
      have hs2 : ((listed.setIfInBounds i true).setIfInBounds j true).getD st false = false := by rw [getD_set_ne false hjst, getD_set_ne false hist]; exact hst
      have h2 := wpOp_putIf hoj (hfree j oj hoj hji hjun hnot) (fun cs b => hsel i oi cs b hi) (fun cs b => hsel j oj cs b hoj) hQ hy h1
      have hfree' : ∀ k ok, ops[k]? = some ok → k ≠ i → (listed.setIfInBounds j true).getD k true = false →
          (∀ e ∈ ok.after, Region.binds md e = true → e.on ≠ i) → oi.apart ops ok = true := fun k ok hk hki hun hno => by
        refine hfree k ok hk hki ?_ hno
        by_cases hjk : j = k
        · subst hjk; exact hjun
        · rw [getD_set_ne true hjk] at hun; exact hun
      refine wpOp_mono (fun a' w' h3 => ?_) h2
      have hS' : S w' := by
        rcases h3.2.1 with h | h
        · rw [hs2] at h; cases h
        · exact h
      refine ⟨.inr hS', ih (listed.setIfInBounds j true) a' w' hfree' (ready_mono hr (Ne.symm hji)) h3.1 hs1 hS' ?_⟩
      rw [Array.setIfInBounds_comm _ _ hji]
      exact h3.2.2
theorem anyT_take (i : Nat) (v : Value) {oi ost : Oper} {fuel : Nat} {listed : Array Bool} {a : Act} {w : World} (hi : ops[i]? = some oi) (hist : i ≠ st) (host : ops[st]? = some ost)
    (hwait : (ost.after.toList.any fun e => Region.binds md e && decide (e.on = i)) = true) (hs : Region.noSelect ops = true) (hf : Region.free md ops listed i = true) (hr : (Region.ready md ops listed).contains i = true)
    (hQ : ∀ c a w, Q (.panic c) (a.put oi.dst v) w → Q (.panic c) a w) (hw : Region.wanted oi (yielded ops a.tmps) = true) (hy : ∀ w, S w → (execOp a.eval oi).run P w = .ok (.value v) w) (hst : listed.getD st false = false) (hS : S w)
    (h : ∀ K' : Act → World → Prop, (∀ a w, anyT P md ops Q S st fuel (listed.setIfInBounds i true) a w → K' a w) → K' (a.put oi.dst v) w) : anyT P md ops Q S st (fuel + 1) listed a w := by
  refine anyT_first hi hist host ?_ (Region.noSelect_spec hs) hQ fuel listed a w (Region.free_spec hi hf) (by simpa using hr) (.inl ⟨hw, hy⟩) hst hS (h _ (fun _ _ k => k))
  obtain ⟨e, he, hb⟩ := List.any_eq_true.1 hwait
  simp only [Bool.and_eq_true, decide_eq_true_eq] at hb
  exact ⟨e, by simpa using he, hb.1, hb.2⟩
theorem anyT_pure {i : Nat} {oi : Oper} {v : Value} (hi : ops[i]? = some oi) (hist : i ≠ st)
    (hsel : ∀ (j : Nat) (o : Oper) cs b, ops[j]? = some o → o.op ≠ .select cs b) (hQ : ∀ c a w, Q (.panic c) (a.put oi.dst v) w → Q (.panic c) a w) :
    ∀ (fuel : Nat) (listed : Array Bool) (a : Act) (w : World),
      (∀ j oj, ops[j]? = some oj → j ≠ i → listed.getD j true = false → (∀ e ∈ oj.after, Region.binds md e = true → e.on ≠ i) → oi.apart ops oj = true) →
      i ∈ Region.ready md ops listed → YieldsIf P ops (fun _ => True) oi v a → (listed.getD st false = true ∨ S w) →
      anyT P md ops Q S st fuel (listed.setIfInBounds i true) (a.put oi.dst v) w → anyT P md ops Q S st (fuel + 1) listed a w := by
  intro fuel
  induction fuel with
  | zero =>
    intro listed a w _ hr hy hS H
    refine ⟨fun h => (by rw [h] at hr; cases hr), fun j hj => ?_⟩
    by_cases hji : j = i
    · subst hji; exact hy.wpOp hi trivial ⟨by rw [getD_set_ne false hist]; exact hS, H⟩
    · have := ready_mono hj hji
      rw [H.1] at this
      cases this
  | succ fuel ih =>
    intro listed a w hfree hr hy hS H
    refine ⟨fun h => (by rw [h] at hr; cases hr), fun j hj => ?_⟩
    by_cases hji : j = i
    · subst hji; exact hy.wpOp hi trivial ⟨by rw [getD_set_ne false hist]; exact hS, H⟩
    · have h1 := H.2 j (ready_mono hj hji)
      obtain ⟨hjun, oj, hoj, hall⟩ := mem_ready.1 hj
      have hnot : ∀ e ∈ oj.after, Region.binds md e = true → e.on ≠ i := fun e he hb heq => by
        have h1 := hall e he hb
        have h0 := (mem_ready.1 hr).1
        rw [heq] at h1
        rcases Nat.lt_or_ge i listed.size with h' | h'
        · simp [h'] at h0 h1; rw [h0] at h1; cases h1
        · simp [Array.getElem?_eq_none h'] at h1
      have h2 := wpOp_putIf hoj (hfree j oj hoj hji hjun hnot) (fun cs b => hsel i oi cs b hi) (fun cs b => hsel j oj cs b hoj) hQ hy h1
      have hfree' : ∀ k ok, ops[k]? = some ok → k ≠ i → (listed.setIfInBounds j true).getD k true = false →
          (∀ e ∈ ok.after, Region.binds md e = true → e.on ≠ i) → oi.apart ops ok = true := fun k ok hk hki hun hno => by
        refine hfree k ok hk hki ?_ hno
        by_cases hjk : j = k
        · subst hjk; exact hjun
        · rw [getD_set_ne true hjk] at hun; exact hun
      refine wpOp_mono (fun a' w' h3 => ?_) h2
      have hS' : (listed.setIfInBounds j true).getD st false = true ∨ S w' := by
        rcases h3.2.1 with h | h
        · rw [Array.setIfInBounds_comm _ _ (Ne.symm hji), getD_set_ne false hist] at h
          exact .inl h
        · exact .inr h
      refine ⟨hS', ih (listed.setIfInBounds j true) a' w' hfree' (ready_mono hr (Ne.symm hji)) h3.1 hS' ?_⟩
      rw [Array.setIfInBounds_comm _ _ hji]
      exact h3.2.2
theorem anyT_free (i : Nat) (v : Value) {oi : Oper} {fuel : Nat} {listed : Array Bool} {a : Act} {w : World} (hi : ops[i]? = some oi) (hist : i ≠ st)
    (hs : Region.noSelect ops = true) (hf : Region.free md ops listed i = true) (hr : (Region.ready md ops listed).contains i = true)
    (hQ : ∀ c a w, Q (.panic c) (a.put oi.dst v) w → Q (.panic c) a w) (hw : Region.wanted oi (yielded ops a.tmps) = true) (hy : ∀ w, (execOp a.eval oi).run P w = .ok (.value v) w) (hS : listed.getD st false = true ∨ S w)
    (h : ∀ K' : Act → World → Prop, (∀ a w, anyT P md ops Q S st fuel (listed.setIfInBounds i true) a w → K' a w) → K' (a.put oi.dst v) w) : anyT P md ops Q S st (fuel + 1) listed a w :=
  anyT_pure hi hist (Region.noSelect_spec hs) hQ fuel listed a w (Region.free_spec hi hf) (by simpa using hr) (.inl ⟨hw, fun w _ => hy w⟩) hS (h _ (fun _ _ k => k))
theorem anyT_one (i : Nat) {o : Oper} {fuel : Nat} {listed : Array Bool} {a : Act} {w : World} (hr : Region.ready md ops listed = [i]) (ho : ops[i]? = some o) (hw : Region.wanted o (yielded ops a.tmps) = true)
    (h : ∀ K' : Act → World → Prop, (∀ a w, ((listed.setIfInBounds i true).getD st false = true ∨ S w) → anyT P md ops Q S st fuel (listed.setIfInBounds i true) a w → K' a w) → Oper.wp P o a w K' Q) : anyT P md ops Q S st (fuel + 1) listed a w := by
  refine ⟨fun h0 => (by rw [hr] at h0; cases h0), fun j hj => ?_⟩
  rw [hr] at hj
  simp only [List.mem_singleton] at hj
  subst hj
  unfold wpOp
  rw [ho]
  simp only [hw, if_true]
  exact .inl (h _ (fun _ _ s k => ⟨s, k⟩))
theorem anyT_done {listed : Array Bool} {a : Act} {w : World} (hr : Region.ready md ops listed = []) (h : Q .normal a w) : ∀ fuel, anyT P md ops Q S st fuel listed a w
  | 0 => ⟨hr, h⟩
  | _ + 1 => ⟨fun _ => h, by rw [hr]; simp⟩
theorem region_anyT {id : Nat} {a : Act} {w : World} (hm : P.follows .mixedOrders = true)
    (h : anyT P .any ops Q S st ops.size (Array.replicate ops.size false) a w.drew) : (Code.region id ops true).wp P Q a w :=
  wp_region_any hm (any_of_anyT _ _ _ _ h)
end
theorem name_cells (i k : Nat) : (#[.int .u8 109, .int .u8 (65 + (i : Int) % 26), .int .u8 (65 + (i : Int) / 26 % 26), .int .u8 (48 + (k : Int) % 10), .int .u8 (48 + (k : Int) / 10 % 10), .int .u8 (48 + (k : Int) / 100 % 10)] : Array Value) = (bV (nameL i k)).toArray := by
  have e : ∀ n : Nat, n < 256 → (((UInt8.ofNat n).toNat : Nat) : Int) = (n : Int) := fun n h => by simp; omega
  simp only [bV, nameL, List.map_cons, List.map_nil]
  rw [e _ (by omega), e _ (by omega), e _ (by omega), e _ (by omega), e _ (by omega)]
  rfl
theorem bname_any (i k : Nat) (w : World) (hi : i ≤ 1000000) (hk : k ≤ 1000000) :
    Calls Tryz.prog 245 #[.int .i64 (i : Int), .int .i64 (k : Int)] w fun e w' => e = .returned (.string ⟨(nameL i k).toArray⟩) ∧ Below w.heap.size w w' := by
  have hc : ∀ g, g = w.heap.size → (convert 153 9 (.slice (some ⟨g, 0, none⟩) 6 6)).run Tryz.prog (w.alloc (.cells #[.int .u8 109, .int .u8 (65 + (i : Int) % 26), .int .u8 (65 + (i : Int) / 26 % 26), .int .u8 (48 + (k : Int) % 10), .int .u8 (48 + (k : Int) / 10 % 10), .int .u8 (48 + (k : Int) / 100 % 10)] 5)) =
      .ok (.string ⟨(nameL i k).toArray⟩) (w.alloc (.cells #[.int .u8 109, .int .u8 (65 + (i : Int) % 26), .int .u8 (65 + (i : Int) / 26 % 26), .int .u8 (48 + (k : Int) % 10), .int .u8 (48 + (k : Int) / 10 % 10), .int .u8 (48 + (k : Int) / 100 % 10)] 5)) := by
    intro g hg
    subst hg
    rw [name_cells]
    exact run_str_cells (P := Tryz.prog) _ 153 9 5 ⟨w.heap.size, 0, none⟩ 6 (nameL i k) Tryz.underlying153 Tryz.underlying5 Tryz.underlying9 (cells_new w (bV (nameL i k)) 5)
  have hc1 := hc _ rfl
  clear hc
  go_enter Tryz.func245, Tryz.ntmps245
  go_wp2_with fail
  go_ret
  exact ⟨rfl, (Below.refl _ _).alloc (Nat.le_refl _) _⟩
def nameT (i k : Nat) : List UInt8 := [UInt8.ofNat (65 + i % 26), UInt8.ofNat (65 + i / 26 % 26), UInt8.ofNat (48 + k % 10), UInt8.ofNat (48 + k / 10 % 10), UInt8.ofNat (48 + k / 100 % 10)]
theorem nameT_cells (i k : Nat) : (#[.int .u8 (65 + (i : Int) % 26), .int .u8 (65 + (i : Int) / 26 % 26), .int .u8 (48 + (k : Int) % 10), .int .u8 (48 + (k : Int) / 10 % 10), .int .u8 (48 + (k : Int) / 100 % 10)] : Array Value) = (bV (nameT i k)).toArray := by
  have e : ∀ n : Nat, n < 256 → (((UInt8.ofNat n).toNat : Nat) : Int) = (n : Int) := fun n h => by simp; omega
  simp only [bV, nameT, List.map_cons, List.map_nil]
  rw [e _ (by omega), e _ (by omega), e _ (by omega), e _ (by omega), e _ (by omega)]
  rfl
def xB (t : TypeId) : Bool := t == 9 || t == 179 || t == 182 || t == 47
def TO (B : Nat) (w : World) (v : Value) (l : List (List UInt8)) : Prop := w.ownsRow B 9 1 v l.length (sV l)
def AO (B : Nat) (w : World) (v : Value) (l : List At) : Prop := ∃ us, OwnA B w v l us
def MO (B : Nat) (w : World) (v : Value) (l : List Md) : Prop := ∃ us, OwnM B w v l us
def CO (B : Nat) (w : World) (v : Value) (l : List Chg) : Prop :=
  ∃ us : List (Value × Value), w.ownsRow B 47 10 v l.length (flatC l us) ∧ us.length = l.length ∧ ∀ (j : Nat) (c : Chg) (q : Value × Value), l[j]? = some c → us[j]? = some q → AO B w q.1 c.attrs ∧ MO B w q.2 c.mods
theorem TO.kept {B : Nat} {w w' : World} {v : Value} {l : List (List UInt8)} (h : TO B w v l) (hk : ∀ k t, Ty w k t → xB t = true → w'.heap[k]? = w.heap[k]?) : TO B w' v l := own_ty_kept h (fun k ht => hk k _ ht (by decide))
theorem AO.kept {B : Nat} {w w' : World} {v : Value} {l : List At} (h : AO B w v l) (hk : ∀ k t, Ty w k t → xB t = true → w'.heap[k]? = w.heap[k]?) : AO B w' v l := by
  obtain ⟨us, h1, h2, h3⟩ := h
  exact ⟨us, own_ty_kept h1 (fun k ht => hk k _ ht (by decide)), h2, fun j x u a b => own_ty_kept (h3 j x u a b) (fun k ht => hk k _ ht (by decide))⟩
theorem MO.kept {B : Nat} {w w' : World} {v : Value} {l : List Md} (h : MO B w v l) (hk : ∀ k t, Ty w k t → xB t = true → w'.heap[k]? = w.heap[k]?) : MO B w' v l := by
  obtain ⟨us, h1, h2, h3⟩ := h
  exact ⟨us, own_ty_kept h1 (fun k ht => hk k _ ht (by decide)), h2, fun j x u a b => own_ty_kept (h3 j x u a b) (fun k ht => hk k _ ht (by decide))⟩
theorem CO.kept {B : Nat} {w w' : World} {v : Value} {l : List Chg} (h : CO B w v l) (hk : ∀ k t, Ty w k t → xB t = true → w'.heap[k]? = w.heap[k]?) : CO B w' v l := by
  obtain ⟨us, h1, h2, h3⟩ := h
  exact ⟨us, own_ty_kept h1 (fun k ht => hk k _ ht (by decide)), h2, fun j c q a b => ⟨(h3 j c q a b).1.kept hk, (h3 j c q a b).2.kept hk⟩⟩
theorem TO.mono {B B' : Nat} {w : World} {v : Value} {l : List (List UInt8)} (h : TO B w v l) (hB : B' ≤ B) : TO B' w v l := own_lower h hB
theorem AO.mono {B B' : Nat} {w : World} {v : Value} {l : List At} (h : AO B w v l) (hB : B' ≤ B) : AO B' w v l := by
  obtain ⟨us, h1, h2, h3⟩ := h
  exact ⟨us, own_lower h1 hB, h2, fun j x u a b => own_lower (h3 j x u a b) hB⟩
theorem MO.mono {B B' : Nat} {w : World} {v : Value} {l : List Md} (h : MO B w v l) (hB : B' ≤ B) : MO B' w v l := by
  obtain ⟨us, h1, h2, h3⟩ := h
  exact ⟨us, own_lower h1 hB, h2, fun j x u a b => own_lower (h3 j x u a b) hB⟩
theorem CO.mono {B B' : Nat} {w : World} {v : Value} {l : List Chg} (h : CO B w v l) (hB : B' ≤ B) : CO B' w v l := by
  obtain ⟨us, h1, h2, h3⟩ := h
  exact ⟨us, own_lower h1 hB, h2, fun j c q a b => ⟨(h3 j c q a b).1.mono hB, (h3 j c q a b).2.mono hB⟩⟩
theorem TO.sl {B : Nat} {w : World} {v : Value} {l : List (List UInt8)} (h : TO B w v l) : ∃ a c, v = .slice a l.length c := gl_of h
theorem AO.sl {B : Nat} {w : World} {v : Value} {l : List At} (h : AO B w v l) : ∃ a c, v = .slice a l.length c := by obtain ⟨us, h1, _⟩ := h; exact gl_of h1
theorem MO.sl {B : Nat} {w : World} {v : Value} {l : List Md} (h : MO B w v l) : ∃ a c, v = .slice a l.length c := by obtain ⟨us, h1, _⟩ := h; exact gl_of h1
theorem CO.sl {B : Nat} {w : World} {v : Value} {l : List Chg} (h : CO B w v l) : ∃ a c, v = .slice a l.length c := by obtain ⟨us, h1, _⟩ := h; exact gl_of h1
theorem TO.flat {B : Nat} {w : World} {v : Value} {l : List (List UInt8)} (h : TO B w v l) : ∃ xs, w.ownsRow B 9 1 v l.length xs := ⟨_, h⟩
theorem AO.flat {B : Nat} {w : World} {v : Value} {l : List At} (h : AO B w v l) : ∃ xs, w.ownsRow B 179 2 v l.length xs := by obtain ⟨us, h1, _⟩ := h; exact ⟨_, h1⟩
theorem MO.flat {B : Nat} {w : World} {v : Value} {l : List Md} (h : MO B w v l) : ∃ xs, w.ownsRow B 182 3 v l.length xs := by obtain ⟨us, h1, _⟩ := h; exact ⟨_, h1⟩
theorem CO.flat {B : Nat} {w : World} {v : Value} {l : List Chg} (h : CO B w v l) : ∃ xs, w.ownsRow B 47 10 v l.length xs := by obtain ⟨us, h1, _⟩ := h; exact ⟨_, h1⟩
theorem TO.at {B : Nat} {w : World} {v : Value} {l : List (List UInt8)} (h : TO B w v l) : StrsAt w v l := StrsN.at h
theorem AO.at {B : Nat} {w : World} {v : Value} {l : List At} (h : AO B w v l) : AttrsAt w v l := by obtain ⟨us, h1, h2, h3⟩ := h; exact attrs_own h1 h2 h3
theorem MO.at {B : Nat} {w : World} {v : Value} {l : List Md} (h : MO B w v l) : ModsAt w v l := by obtain ⟨us, h1, h2, h3⟩ := h; exact mods_own h1 h2 h3
theorem CO.at {B : Nat} {w : World} {v : Value} {l : List Chg} (h : CO B w v l) : ChgsAt w v l := by
  obtain ⟨us, h1, h2, h3⟩ := h
  exact chgs_own h1 h2 (fun j c p a b => ⟨(h3 j c p a b).1.at, (h3 j c p a b).2.at⟩)
theorem same_below {w w' : World} (hb : Below w.heap.size w w') : ∀ k t, Ty w k t → xB t = true → w'.heap[k]? = w.heap[k]? :=
  fun k _ ht _ => hb.block k (by obtain ⟨_, _, ht⟩ := ht; exact (Array.getElem?_eq_some_iff.1 ht).1)
theorem same_of_below {w w' : World} (hb : Below w.heap.size w w') : ∀ k t, Ty w k t → xB t = true → w'.heap[k]? = w.heap[k]? := same_below hb
theorem same_grown {w w' : World} {B size n : Nat} {L : TypeId} {l : Value} {xs : List Value} (hl : w.ownsRow B L size l n xs) (he : xB L = false) (hg : w.grownBy w' l.ownBlock) : ∀ k t, Ty w k t → xB t = true → w'.heap[k]? = w.heap[k]? :=
  fun k t ht hx => hg.block k (by obtain ⟨_, _, ht⟩ := ht; exact (Array.getElem?_eq_some_iff.1 ht).1) (fun e => by
    have := (own_ty hl e.symm).eq ht
    subst this
    rw [he] at hx
    cases hx)
theorem same_setp {w : World} {p i : Nat} {b : Nat → Value} {x : Value} (hp : BF w p b) : ∀ k t, Ty w k t → xB t = true → (w.setCell ⟨p, i, none⟩ x).heap[k]? = w.heap[k]? :=
  fun k t ht hx => Below.heap_setCell w ⟨p, i, none⟩ x k (fun e => by
    subst e
    have := hp.ty.eq ht
    subst this
    exact absurd hx (by decide))
theorem TO.below {B : Nat} {w w' : World} {v : Value} {l : List (List UInt8)} (h : TO B w v l) (hb : Below w.heap.size w w') : TO B w' v l := h.kept (same_below hb)
theorem AO.below {B : Nat} {w w' : World} {v : Value} {l : List At} (h : AO B w v l) (hb : Below w.heap.size w w') : AO B w' v l := h.kept (same_below hb)
theorem MO.below {B : Nat} {w w' : World} {v : Value} {l : List Md} (h : MO B w v l) (hb : Below w.heap.size w w') : MO B w' v l := h.kept (same_below hb)
theorem CO.below {B : Nat} {w w' : World} {v : Value} {l : List Chg} (h : CO B w v l) (hb : Below w.heap.size w w') : CO B w' v l := h.kept (same_below hb)
theorem TO.grownL {B B' size n : Nat} {w w' : World} {v l' : Value} {L : TypeId} {xs : List Value} {l : List (List UInt8)} (h : TO B w v l) (hl : w.ownsRow B' L size l' n xs) (he : xB L = false) (hg : w.grownBy w' l'.ownBlock) : TO B w' v l := h.kept (same_grown hl he hg)
theorem AO.grownL {B B' size n : Nat} {w w' : World} {v l' : Value} {L : TypeId} {xs : List Value} {l : List At} (h : AO B w v l) (hl : w.ownsRow B' L size l' n xs) (he : xB L = false) (hg : w.grownBy w' l'.ownBlock) : AO B w' v l := h.kept (same_grown hl he hg)
theorem MO.grownL {B B' size n : Nat} {w w' : World} {v l' : Value} {L : TypeId} {xs : List Value} {l : List Md} (h : MO B w v l) (hl : w.ownsRow B' L size l' n xs) (he : xB L = false) (hg : w.grownBy w' l'.ownBlock) : MO B w' v l := h.kept (same_grown hl he hg)
theorem CO.grownL {B B' size n : Nat} {w w' : World} {v l' : Value} {L : TypeId} {xs : List Value} {l : List Chg} (h : CO B w v l) (hl : w.ownsRow B' L size l' n xs) (he : xB L = false) (hg : w.grownBy w' l'.ownBlock) : CO B w' v l := h.kept (same_grown hl he hg)
theorem TO.setp {B i p : Nat} {w : World} {v x : Value} {b : Nat → Value} {l : List (List UInt8)} (h : TO B w v l) (hp : BF w p b) : TO B (w.setCell ⟨p, i, none⟩ x) v l := h.kept (same_setp hp)
theorem AO.setp {B i p : Nat} {w : World} {v x : Value} {b : Nat → Value} {l : List At} (h : AO B w v l) (hp : BF w p b) : AO B (w.setCell ⟨p, i, none⟩ x) v l := h.kept (same_setp hp)
theorem MO.setp {B i p : Nat} {w : World} {v x : Value} {b : Nat → Value} {l : List Md} (h : MO B w v l) (hp : BF w p b) : MO B (w.setCell ⟨p, i, none⟩ x) v l := h.kept (same_setp hp)
theorem CO.setp {B i p : Nat} {w : World} {v x : Value} {b : Nat → Value} {l : List Chg} (h : CO B w v l) (hp : BF w p b) : CO B (w.setCell ⟨p, i, none⟩ x) v l := h.kept (same_setp hp)
/- how long lists may be -/
def OkT (l : List (List UInt8)) : Prop := l.length ≤ 900000
def OkA (l : List At) : Prop := l.length ≤ 900000 ∧ ∀ x ∈ l, x.2.length ≤ 900000
def OkM (l : List Md) : Prop := l.length ≤ 900000 ∧ ∀ x ∈ l, x.2.2.length ≤ 900000
def OkC (l : List Chg) : Prop := l.length ≤ 900000 ∧ ∀ c ∈ l, OkA c.attrs ∧ OkM c.mods
def WdT (l : List (List UInt8)) : Prop := l.length ≤ 1000000
def WdA (l : List At) : Prop := l.length ≤ 1000000 ∧ ∀ x ∈ l, x.2.length ≤ 1000000
def WdM (l : List Md) : Prop := l.length ≤ 1000000 ∧ ∀ x ∈ l, x.2.2.length ≤ 1000000
def WdC (l : List Chg) : Prop := l.length ≤ 1000000 ∧ ∀ c ∈ l, WdA c.attrs ∧ WdM c.mods
theorem OkT.w {l : List (List UInt8)} (h : OkT l) : WdT l := Nat.le_trans h (by decide)
theorem OkA.w {l : List At} (h : OkA l) : WdA l := ⟨Nat.le_trans h.1 (by decide), fun x hx => Nat.le_trans (h.2 x hx) (by decide)⟩
theorem OkM.w {l : List Md} (h : OkM l) : WdM l := ⟨Nat.le_trans h.1 (by decide), fun x hx => Nat.le_trans (h.2 x hx) (by decide)⟩
theorem OkC.w {l : List Chg} (h : OkC l) : WdC l := ⟨Nat.le_trans h.1 (by decide), fun c hc => ⟨(h.2 c hc).1.w, (h.2 c hc).2.w⟩⟩
theorem BF.same {w : World} {p f : Nat} {b : Nat → Value} {a c : Value} (h : BF w p b) (h1 : b f = a) (h2 : b (f + 1) = c) : BF w p (upd (upd b f a) (f + 1) c) := by
  have e : upd (upd b f a) (f + 1) c = b := by
    funext j
    unfold upd
    split
    · rename_i hj; rw [hj, h2]
    · split
      · rename_i hj; rw [hj, h1]
      · rfl
  rw [e]
  exact h
def KPost {T : Type} (L : TypeId) (XO : Nat → World → Value → T → Prop) (w : World) (p : Nat) (b : Nat → Value) (f : Nat) (a c v : Value) (B n : Nat) (vs us : List Value) (l : T) (w' : World) : Prop :=
  ∃ (a' c' : Value) (vs' us' : List Value), BF w' p (upd (upd b f a') (f + 1) c') ∧ w'.ownsRow B L 1 a' vs'.length vs' ∧ w'.ownsRow B L 1 c' us'.length us' ∧ (∀ k, a'.ownBlock = some k → c'.ownBlock ≠ some k) ∧
    KG (fun k => k = p ∨ a.ownBlock = some k ∨ c.ownBlock = some k) w w' ∧ (n < 250 ∧ vs' = vs ++ [v] ∧ (∃ u, us' = us ++ [u] ∧ XO B w' u l) ∨ n = 250 ∧ vs' = vs ∧ us' = us)
def KI {T : Type} (L : TypeId) (XO : Nat → World → Value → T → Prop) (ok : T → Prop) (B : Nat) (F : Nat → Prop) (w : World) (a c : Value) : Prop :=
  ∃ (vs us : List Value) (ls : List T), w.ownsRow B L 1 a vs.length vs ∧ w.ownsRow B L 1 c us.length us ∧ (∀ k, a.ownBlock = some k → c.ownBlock ≠ some k) ∧ (vs.length ≤ 250 ∧ us.length = vs.length ∧ ls.length = vs.length) ∧
    (∀ (i : Nat) (l : T), ls[i]? = some l → ok l ∧ ∃ v u, vs[i]? = some v ∧ us[i]? = some u ∧ XO B w v l ∧ XO B w u l) ∧ Sep vs ∧ ∀ v ∈ vs, ∀ k, v.ownBlock = some k → F k
theorem KI.mono {T : Type} {L : TypeId} {XO : Nat → World → Value → T → Prop} {ok : T → Prop} {B : Nat} {F F' : Nat → Prop} {w : World} {a c : Value} (h : KI L XO ok B F w a c) (hF : ∀ k, F k → F' k) : KI L XO ok B F' w a c := by
  obtain ⟨vs, us, ls, h1, h2, h3, h4, h5, h6, h7⟩ := h
  exact ⟨vs, us, ls, h1, h2, h3, h4, h5, h6, fun v hv k hk => hF k (h7 v hv k hk)⟩
theorem KI.kg {T : Type} {L : TypeId} {XO : Nat → World → Value → T → Prop} {ok : T → Prop} {B : Nat} {F G : Nat → Prop} {w w' : World} {a c : Value} (h : KI L XO ok B F w a c) (hk : KG G w w') (hG : ∀ k, G k → ∃ t, Ty w k t ∧ t ≠ L) (hX : ∀ v l, XO B w v l → XO B w' v l) : KI L XO ok B F w' a c := by
  obtain ⟨vs, us, ls, h1, h2, h3, h4, h5, h6, h7⟩ := h
  have hn : ∀ {n : Nat} {v : Value} {xs : List Value}, w.ownsRow B L 1 v n xs → ∀ k, v.ownBlock = some k → ¬ G k := fun ho k hb hg => by
    obtain ⟨t, h1, h2⟩ := hG k hg
    exact h2 (h1.eq (own_ty ho hb))
  exact ⟨vs, us, ls, hk.own h1 (hn h1), hk.own h2 (hn h2), h3, h4, fun i l hi => by
    obtain ⟨g0, v, u, g1, g2, g3, g4⟩ := h5 i l hi
    exact ⟨g0, v, u, g1, g2, hX _ _ g3, hX _ _ g4⟩, h6, h7⟩
theorem ki_add {T : Type} {L : TypeId} {XO : Nat → World → Value → T → Prop} {ok : T → Prop} {B p f : Nat} {F : Nat → Prop} {w w' : World} {b : Nat → Value} {a c v : Value} {vs us : List Value} {ls : List T} {l : T}
    (n1 : vs.length ≤ 250) (n2 : us.length = vs.length) (n3 : ls.length = vs.length) (h8 : ∀ (i : Nat) (l : T), ls[i]? = some l → ok l ∧ ∃ v u, vs[i]? = some v ∧ us[i]? = some u ∧ XO B w v l ∧ XO B w u l) (h9 : Sep vs) (h10 : ∀ v ∈ vs, ∀ k, v.ownBlock = some k → F k)
    (hX : ∀ v l, XO B w v l → XO B w' v l) (hv : XO B w v l) (hl : ok l) (hF : ∀ k, v.ownBlock = some k → ¬ F k) (hp : KPost L XO w p b f a c v B vs.length vs us l w') :
    ∃ a' c', BF w' p (upd (upd b f a') (f + 1) c') ∧ KI L XO ok B (fun k => F k ∨ v.ownBlock = some k) w' a' c' := by
  obtain ⟨a', c', vs', us', g0, g1, g2, g3, _, hor⟩ := hp
  have k8 : ∀ (i : Nat) (l : T), ls[i]? = some l → ok l ∧ ∃ v u, vs[i]? = some v ∧ us[i]? = some u ∧ XO B w' v l ∧ XO B w' u l := fun i l hi => by
    obtain ⟨g0, v, u, g1, g2, g3, g4⟩ := h8 i l hi
    exact ⟨g0, v, u, g1, g2, hX _ _ g3, hX _ _ g4⟩
  rcases hor with ⟨hlt, rfl, u, rfl, hu⟩ | ⟨_, rfl, rfl⟩
  · refine ⟨a', c', g0, _, _, ls ++ [l], g1, g2, g3, ⟨by simp; omega, by simp [n2], by simp [n3]⟩, ?_, ?_, ?_⟩
    · intro i l' hi
      rcases Nat.lt_or_ge i ls.length with hil | hil
      · rw [List.getElem?_append_left hil] at hi
        obtain ⟨g0, v', u', g1, g2, g3, g4⟩ := k8 i l' hi
        exact ⟨g0, v', u', by rw [List.getElem?_append_left (by omega)]; exact g1, by rw [List.getElem?_append_left (by omega)]; exact g2, g3, g4⟩
      · have hi2 := (List.getElem?_eq_some_iff.1 hi).1
        simp at hi2
        have hie : i = ls.length := by omega
        subst hie
        rw [List.getElem?_append_right (Nat.le_refl _), Nat.sub_self] at hi
        cases hi
        exact ⟨hl, v, u, by rw [List.getElem?_append_right (by omega), n3, Nat.sub_self]; rfl, by rw [List.getElem?_append_right (by omega), n3, n2, Nat.sub_self]; rfl, hX _ _ hv, hu⟩
    · exact h9.snoc (fun u hu k hk e => hF k e (h10 u hu k hk))
    · intro u hu k hk
      rcases List.mem_append.1 hu with hu | hu
      · exact .inl (h10 u hu k hk)
      · simp at hu; subst hu; exact .inr hk
  · exact ⟨a', c', g0, _, _, ls, g1, g2, g3, ⟨n1, n2, n3⟩, k8, h9, fun v hv k hk => .inl (h10 v hv k hk)⟩
def bkT (t : TypeId) : Bool := t == 43 || t == 58 || t == 44 || t == 45 || t == 51
theorem bkT_x {t : TypeId} (h : bkT t = true) : xB t = false := by
  simp only [bkT, Bool.or_eq_true, beq_iff_eq] at h
  rcases h with (((rfl | rfl) | rfl) | rfl) | rfl <;> decide
structure Kd (B : Nat) (w w' : World) : Prop where
  os : w'.os = w.os
  tape : w'.tape = w.tape
  output : w'.output = w.output
  size : w.heap.size ≤ w'.heap.size
  block : ∀ k, k < w.heap.size → (k < B ∨ ∀ t, Ty w k t → bkT t = false) → w'.heap[k]? = w.heap[k]?
theorem Kd.refl (B : Nat) (w : World) : Kd B w w := ⟨rfl, rfl, rfl, Nat.le_refl _, fun _ _ _ => rfl⟩
theorem Ty.of_eq {w w' : World} {k : Nat} {t : TypeId} (h : Ty w' k t) (e : w'.heap[k]? = w.heap[k]?) : Ty w k t := by
  obtain ⟨cs, fr, h⟩ := h
  exact ⟨cs, fr, e ▸ h⟩
theorem Kd.trans {B : Nat} {a b c : World} (h : Kd B a b) (k : Kd B b c) : Kd B a c :=
  ⟨k.os.trans h.os, k.tape.trans h.tape, k.output.trans h.output, Nat.le_trans h.size k.size, fun i hi hn => by
    have e := h.block i hi hn
    refine (k.block i (Nat.lt_of_lt_of_le hi h.size) ?_).trans e
    rcases hn with hn | hn
    · exact .inl hn
    · exact .inr (fun t ht => hn t (ht.of_eq e))⟩
theorem Kd.of_below {B : Nat} {w w' : World} (h : Below w.heap.size w w') : Kd B w w' := ⟨h.os, h.tape, h.output, h.size, fun k hk _ => h.block k hk⟩
theorem Kd.below {B : Nat} {w w' : World} (h : Kd B w w') (hB : B ≤ w.heap.size) : Below B w w' := ⟨h.os, h.tape, h.output, h.size, fun k hk => h.block k (by omega) (.inl hk)⟩
theorem Kd.of_kg {B : Nat} {G : Nat → Prop} {w w' : World} (h : KG G w w') (hG : ∀ k, G k → B ≤ k ∧ ∃ t, Ty w k t ∧ bkT t = true) : Kd B w w' :=
  ⟨h.os, h.tape, h.output, h.size, fun k hk hn => h.block k hk (fun hg => by
    obtain ⟨h1, t, h2, h3⟩ := hG k hg
    rcases hn with hn | hn
    · omega
    · rw [hn t h2] at h3; cases h3)⟩
theorem Kd.same {B : Nat} {w w' : World} (h : Kd B w w') : ∀ k t, Ty w k t → xB t = true → w'.heap[k]? = w.heap[k]? :=
  fun k t ht hx => h.block k (by obtain ⟨_, _, ht⟩ := ht; exact (Array.getElem?_eq_some_iff.1 ht).1) (.inr (fun t' ht' => by
    have := ht.eq ht'
    subst this
    cases hb : bkT t with
    | false => rfl
    | true => rw [bkT_x hb] at hx; cases hx))
theorem Kd.own {B B' e size n : Nat} {w w' : World} {v : Value} {xs : List Value} (h : Kd B w w') (ho : w.ownsRow B' e size v n xs) (he : bkT e = false) : w'.ownsRow B' e size v n xs := by
  refine ⟨ho.1, ?_⟩
  rcases ho.2 with hz | ⟨g, cap, cur, rfl, hb, hg, r⟩
  · exact .inl hz
  · refine .inr ⟨g, cap, cur, rfl, hb, (h.block g (Array.getElem?_eq_some_iff.1 hg).1 (.inr (fun t ht => ?_))).trans hg, r⟩
    rw [ht.eq ⟨cur, _, hg⟩]
    exact he
end Go.Proofs.YtegigcneimjimaaGreatDoor
