/- The card of the law DnPrints (second form). -/
import Derived.Test.YtegigcneimjimaaGreatDoorCardBase
import Derived.Test.YtegigcneimjimaaGreatDoorLpC
import Derived.Test.YtegigcneimjimaaGreatDoorOpenDb
namespace Go.Proofs.YtegigcneimjimaaGreatDoor
open Go.Shelf Go.ChangeShapes Go.WideShapes Go.ChangeAt Go.RowKit Go.Lib
open Go.ChangeMaps (open_string shut_string)

theorem dnPrintsUpto_reads (os : Os) {H : Type} (enc : TypeId × Value → H) :
    (Rows.OpenSpec.upto Rows.dnPrintsSpec).preRow enc Tryz.prog Tryz.f5 Rows.dnPrintsUptoRow.domain false Rows.dnPrintsUptoRow.laid ((laidWorld os).forCall (fun _ _ => 0) ⟨#[], #[.slice none 0 0, .slice none 0 0], []⟩).memory #[.slice none 0 0, .slice none 0 0] := by
  have hw : (DataW.whole enc Tryz.prog ((laidWorld os).forCall (fun _ _ => 0) ⟨#[], #[.slice none 0 0, .slice none 0 0], []⟩).memory Tryz.f5.params.toList Rows.dnPrintsSpec.vars false (#[.slice none 0 0, .slice none 0 0] : Array Value).toList 8).map (fun x => (x.1, x.2.1)) =
      some ([.nil, .nil], []) := by kernel_rfl
  obtain ⟨⟨x1, x2, x3⟩, hx, hx1⟩ := Option.map_eq_some_iff.1 hw
  simp only [Prod.mk.injEq] at hx1
  obtain ⟨rfl, rfl⟩ := hx1
  exact OpenSpec.preRow_of_cond 8 hx (by kernel_rfl) (fun k hk => by cases hk; kernel_rfl) (by kernel_rfl) (laid_met os _)

set_option maxRecDepth 100000 in
set_option maxHeartbeats 2000000 in
theorem dnPrintsUpto_lifted (os : Os) (started : os.Started) (H : Type) (enc : TypeId × Value → H) (F : Stop.Interp) :
    ReturnsInHanded {} Tryz.checked os 5 .any ((Rows.OpenSpec.upto Rows.dnPrintsSpec).preRow enc Tryz.prog Tryz.f5 Rows.dnPrintsUptoRow.domain false Rows.dnPrintsUptoRow.laid) (((Rows.OpenSpec.upto Rows.dnPrintsSpec).at F).post enc Tryz.prog Tryz.f5 false true false false) := by
  refine returnsInHanded_of_row (C := Tryz.checked) (s := Rows.OpenSpec.upto Rows.dnPrintsSpec) own started (by kernel_rfl) Tryz.func5
    (witness_row_atRef (enc := enc) (C := Tryz.checked) false (laidWorld os) #[.slice none 0 0, .slice none 0 0] rfl (by kernel_rfl) (by kernel_rfl) (by kernel_rfl) (dnPrintsUpto_reads os enc)) ?_
  intro W base args ds gs before hval0 hW _ hcond hsz hL hsh _
  have hval : ∀ (j : Nat) t v, Tryz.f5.params[j]? = some t → args[j]? = some v → Value.okWide Tryz.prog W .any base t v := hval0
  have hW' := hW
  obtain ⟨p, q, hA0, hV0, rfl, _, _⟩ := hW
  have hA : DataW.TrodAll enc Tryz.prog W 0 (fun _ => true) true Tryz.f5.params.toList args.toList ds p := hA0
  have hAA := hA
  rw [Tryz.params5] at hA hval
  obtain ⟨v0, vs0, d0, ds0, p0, q0, hargs0, rfl, rfl, h0, r0⟩ := trodAll_cons hA
  obtain ⟨v1, vs1, d1, ds1, p1, q1, hargs1, rfl, rfl, h1, r1⟩ := trodAll_cons r0
  subst hargs1
  obtain ⟨rfl, rfl, rfl⟩ := trodAll_nil r1
  obtain rfl : args = #[v0, v1] := by cases args; simp_all
  obtain ⟨rfl, rfl⟩ := trodVars_none hV0
  obtain ⟨ad0, n0, c0, rfl⟩ := okWide_slice Tryz.underlying60 (hval 0 60 v0 rfl rfl)
  obtain ⟨fu0, hf0⟩ := h0
  obtain ⟨vv0, z0, he0, hi0, hx0, hy0, hz0⟩ := open_dn hf0 (sized_arg hsz (j := 0) (t := 60) rfl rfl)
  obtain rfl : .slice ad0 n0 c0 = vv0 := (List.cons.inj he0).1
  obtain ⟨ad1, n1, c1, rfl⟩ := okWide_slice Tryz.underlying66 (hval 1 66 v1 rfl rfl)
  obtain ⟨fu1, hf1⟩ := h1
  obtain ⟨vv1, z1, he1, hi1, hx1, hy1⟩ := open_avs hf1 (sized_arg hsz (j := 1) (t := 66) rfl rfl)
  obtain rfl : .slice ad1 n1 c1 = vv1 := (List.cons.inj he1).1
  have hcd : Rows.uptoBulkAll _ ≤ 1048576 := of_decide_eq_true (hcond _ rfl)
  simp only [Rows.uptoBulkAll, List.append_nil] at hcd
  simp only at hy0 hz0 hy1
  have hrb : reachBytes ≤ 140737488355328 := by decide
  clear hA0 hV0 hval0
  have walk := DnPrints_any _ _ z0 z1 W hi0 hi1 (fun x hx => by
    rcases List.mem_cons.1 hx with rfl | hx
    · omega
    · have := hz0 x hx; omega) (fun x hx a ha => by
    rcases List.mem_cons.1 hx with rfl | hx
    · exact Nat.le_trans (hx1.2 a ha).1 hrb
    · exact Nat.le_trans ((hx0.2 x hx).2 a ha).1 hrb) (by omega) (env_of hL hsh)
  refine walk.mono ?_
  rintro e W' ⟨rfl, bel⟩
  have hst := args_stay bel _ _ _ _ (by rw [Tryz.params5]; intro t ht; simp only [List.mem_cons, List.not_mem_nil, or_false] at ht; rcases ht with rfl | rfl <;> exact of_decide_eq_true (by kernel_rfl)) hAA (fun p hp => hW'.lt p (List.mem_append_left _ hp))
  refine ⟨_, rfl, _, _, _, [], _, [], hW', ?_, hst, rfl, bel.frame _, fun h => by cases h⟩
  exact trodAll_cons_mk (shut_bool Tryz.underlying4 _) trodAll_mk0

theorem dnPrintsUpto_said : Rows.DnPrintsUptoSaid :=
  OpenClaim.holds_of_cond 5 Tryz.f5 rfl rfl rfl rfl rfl rfl rfl ⟨rfl, rfl, rfl, rfl, rfl⟩ rfl rfl rfl rfl rfl (by kernel_rfl) Tryz.func5 (by kernel_rfl)
    (of_decide_eq_true (by kernel_rfl)) (by unfold Func.isWrapper; rw [if_neg (of_decide_eq_false (by kernel_rfl))]; exact ⟨rfl, rfl⟩)
    (fun os started H enc _ F => by rw [OpenClaim.pre_eq_preRow]; exact dnPrintsUpto_lifted os started H enc F)

theorem dnPrintsUpto_plain (f : FuncId) (fn : Func) (hf : Tryz.pinned.checked.prog.funcNamed "chancery/chancerylaw4.DnPrints" = some f) (hfn : Tryz.pinned.checked.prog.funcs[f]? = some fn) :
    true = Tryz.pinned.checked.prog.looks [] ∧ ∀ (j : Nat) t, fn.params[j]? = some t → Tryz.pinned.checked.prog.wantsStandIn t = false := by
  obtain rfl : f = 5 := Option.some.inj ((show Tryz.prog.funcNamed "chancery/chancerylaw4.DnPrints" = some 5 by kernel_rfl).symm.trans hf) |>.symm
  obtain rfl : fn = Tryz.f5 := (Option.some.inj (Tryz.func5.symm.trans hfn)).symm
  refine ⟨by kernel_rfl, fun j t ht => ?_⟩
  rw [Tryz.params5] at ht
  have hm := Array.mem_of_getElem? ht
  simp only [List.mem_toArray, List.mem_cons, List.not_mem_nil, or_false] at hm
  rcases hm with rfl | rfl
  · exact (show Tryz.prog.wantsStandIn 60 = false by kernel_rfl)
  · exact (show Tryz.prog.wantsStandIn 66 = false by kernel_rfl)

theorem dnPrintsUpto_card : Rows.DnPrintsUptoCardSaid :=
  Claim7.holds_tied_plain_at .later [] _ _ _ _ dnPrintsUpto_said (fun _ h => by cases h) (by kernel_rfl) (fun _ h => by cases h) dnPrintsUpto_row_tie rfl ⟨rfl, rfl⟩ (by kernel_rfl) rfl dnPrintsUpto_plain (by kernel_rfl)
end Go.Proofs.YtegigcneimjimaaGreatDoor
