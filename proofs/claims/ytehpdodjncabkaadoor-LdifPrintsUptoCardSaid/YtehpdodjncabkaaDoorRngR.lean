/- A region without deferred calls, in a round, walked as anywhere. -/
import Derived.Test.YtehpdodjncabkaaDoorRng
import Derived.Test.YtehpdodjncabkaaDoorStepR
import Derived.OrdersIn
import Derived.OrdersHeld
namespace Go.Proofs.YtehpdodjncabkaaDoor
open Go.RowKit Go.Lib

theorem rows_in {P : Program} {n l : Nat} {row : String} {args : Array Value} {w : World} {R : Value → World → Prop} (h : Rows P row args w R) : RowsIn (Fence.wide.inRound l) n P row args w R :=
  fun c cs _ => let ⟨v, w', r, s⟩ := h c cs; ⟨v, w', r, stepsIn_wide.2 s⟩
theorem op_in {P : Program} {n l : Nat} {o : Oper} {a : Act} {w : World} {K : Act → World → Prop} {Q : Exit → Act → World → Prop} (hd : ∀ c, o.op ≠ .defer c) (h : o.wp P a w K Q) : o.wpIn (Fence.wide.inRound l) n P a w K Q := by
  refine ⟨fun _ _ => trivial, ?_⟩
  show Oper.uponIn (Fence.wide.inRound l) n P o a K Q ((o.semAt (some l) a.eval).run P w)
  rw [Oper.semAt_some l _ _ hd]
  unfold Oper.wp at h
  generalize (execOp a.eval o).run P w = r at *
  cases r with
  | ok x w' =>
    cases x <;> simp only [Oper.upon, Oper.uponIn] at h ⊢ <;>
      first
        | exact h
        | exact ⟨(fun hh => by cases hh), CallsIn.inRound l (callsIn_wide.2 h)⟩
        | exact ⟨(fun hh => by cases hh), rows_in h⟩
  | halt x w' => cases x <;> simp only [Oper.upon, Oper.uponIn] at h ⊢ <;> exact h
theorem any_in {P : Program} {md : Region.Mode} {ops : Array Oper} {Q : Exit → Act → World → Prop} {n l : Nat} (hd : ∀ (i : Nat) (o : Oper), ops[i]? = some o → ∀ c, o.op ≠ .defer c) (hq : ¬ LetsOut Q) :
    ∀ (fuel : Nat) (listed : Array Bool) (a : Act) (w : World), wpAny P md ops Q fuel listed a w → wpAnyIn (Fence.wide.inRound l) n P md ops Q fuel listed a w
  | 0, _, _, _, h => h
  | fuel + 1, listed, a, w, h => by
    refine ⟨h.1, fun i hi => ?_⟩
    have h2 := h.2 i hi
    unfold wpOp at h2
    unfold wpOpIn
    split
    · rename_i ho
      rw [ho] at h2
      exact any_in hd hq fuel _ _ _ h2
    · rename_i o ho
      simp only [ho] at h2
      split
      · rename_i hw
        simp only [hw, if_true] at h2
        rcases h2 with h2 | h2
        · exact Oper.wpIn_mono (fun a w h => any_in hd hq fuel _ a w h) (op_in (hd i o ho) h2)
        · exact absurd h2.2 hq
      · rename_i hw
        simp only [hw] at h2
        exact ⟨fun _ _ => trivial, any_in hd hq fuel _ _ _ h2⟩
def noDefer (o : Oper) : Bool := match o.op with | .defer _ => false | _ => true
theorem noDefer_all {ops : Array Oper} (h : ops.toList.all noDefer = true) : ∀ (i : Nat) (o : Oper), ops[i]? = some o → ∀ c, o.op ≠ .defer c := by
  intro i o ho c hc
  have hm : o ∈ ops.toList := Array.mem_def.1 (Array.mem_of_getElem? ho)
  have := List.all_eq_true.1 h o hm
  simp [noDefer, hc] at this
theorem region_in {P : Program} {ops : Array Oper} {Q : Exit → Act → World → Prop} {n l id : Nat} {a : Act} {w : World} (hm : P.follows .mixedOrders = true) (hd : ops.toList.all noDefer = true) (hq : ¬ LetsOut Q)
    (h : wpAny P .any ops Q ops.size (Array.replicate ops.size false) a w.drew) : (Code.region id ops true).wpIn (Fence.wide.inRound l) n P Q a w :=
  wpIn_region_any hm (any_in (noDefer_all hd) hq _ _ _ _ h)
theorem region_inH {P : Program} {ops : Array Oper} {Q : Exit → Act → World → Prop} {S : World → Prop} {n l id : Nat} {a : Act} {w : World} (hm : P.follows .mixedOrders = true) (hd : ops.toList.all noDefer = true) (hq : ¬ LetsOut Q)
    (h : wpAnyH P .any ops Q S ops.size (Array.replicate ops.size false) a w.drew) : (Code.region id ops true).wpIn (Fence.wide.inRound l) n P Q a w :=
  region_in hm hd hq (wpAny_of_held _ _ _ _ h)
theorem anyH_take {P : Program} {md : Region.Mode} {ops : Array Oper} {Q : Exit → Act → World → Prop} {S : World → Prop} (i : Nat) (v : Value) {oi : Oper} {fuel : Nat} {listed : Array Bool} {a : Act} {w : World} (hi : ops[i]? = some oi)
    (hs : Region.noSelect ops = true) (hf : Region.free md ops listed i = true) (hr : (Region.ready md ops listed).contains i = true) (hQ : ∀ c a w, Q (.panic c) (a.put oi.dst v) w → Q (.panic c) a w)
    (hw : Region.wanted oi (yielded ops a.tmps) = true) (hy : ∀ w, S w → (execOp a.eval oi).run P w = .ok (.value v) w) (hS : S w)
    (h : ∀ K' : Act → World → Prop, (∀ a w, wpAnyH P md ops Q S fuel (listed.setIfInBounds i true) a w → K' a w) → K' (a.put oi.dst v) w) : wpAnyH P md ops Q S (fuel + 1) listed a w :=
  wpAnyH_take hi hs hf hr hQ (Or.inl ⟨hw, hy⟩) hS (h _ (fun _ _ k => k))
theorem anyH_one {P : Program} {md : Region.Mode} {ops : Array Oper} {Q : Exit → Act → World → Prop} {S : World → Prop} (i : Nat) {o : Oper} {fuel : Nat} {listed : Array Bool} {a : Act} {w : World}
    (hr : Region.ready md ops listed = [i]) (ho : ops[i]? = some o) (hw : Region.wanted o (yielded ops a.tmps) = true)
    (h : ∀ K' : Act → World → Prop, (∀ a w, S w → wpAnyH P md ops Q S fuel (listed.setIfInBounds i true) a w → K' a w) → Oper.wp P o a w K' Q) : wpAnyH P md ops Q S (fuel + 1) listed a w :=
  wpAnyH_all hr (by simp) (fun j hj => by
    simp only [List.mem_singleton] at hj
    subst hj
    unfold wpOp
    rw [ho]
    simp only [hw, if_true]
    exact .inl (h _ (fun _ _ s k => ⟨s, k⟩)))
theorem anyH_two {P : Program} {md : Region.Mode} {ops : Array Oper} {Q : Exit → Act → World → Prop} {S : World → Prop} (i j : Nat) {o o' : Oper} {fuel : Nat} {listed : Array Bool} {a : Act} {w : World}
    (hr : Region.ready md ops listed = [i, j]) (ho : ops[i]? = some o) (hw : Region.wanted o (yielded ops a.tmps) = true) (ho' : ops[j]? = some o') (hw' : Region.wanted o' (yielded ops a.tmps) = true)
    (h : ∀ K' : Act → World → Prop, (∀ a w, S w → wpAnyH P md ops Q S fuel (listed.setIfInBounds i true) a w → K' a w) → Oper.wp P o a w K' Q)
    (h' : ∀ K' : Act → World → Prop, (∀ a w, S w → wpAnyH P md ops Q S fuel (listed.setIfInBounds j true) a w → K' a w) → Oper.wp P o' a w K' Q) : wpAnyH P md ops Q S (fuel + 1) listed a w :=
  wpAnyH_all hr (by simp) (fun k hk => by
    simp only [List.mem_cons, List.not_mem_nil, or_false] at hk
    rcases hk with rfl | rfl
    · unfold wpOp
      rw [ho]
      simp only [hw, if_true]
      exact .inl (h _ (fun _ _ s k => ⟨s, k⟩))
    · unfold wpOp
      rw [ho']
      simp only [hw', if_true]
      exact .inl (h' _ (fun _ _ s k => ⟨s, k⟩)))
end Go.Proofs.YtehpdodjncabkaaDoor
