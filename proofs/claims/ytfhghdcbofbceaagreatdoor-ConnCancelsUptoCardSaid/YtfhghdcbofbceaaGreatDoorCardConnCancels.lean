/- The card of the law ConnCancels (second form). -/
import Derived.Test.YtfhghdcbofbceaaGreatDoorX1
import Derived.Test.YtfhghdcbofbceaaGreatDoorX24
namespace Go.Proofs.YtfhghdcbofbceaaGreatDoor
open Go.Shelf Go.ChangeShapes Go.WideShapes Go.ChangeAt Go.RowKit Go.Lib
open Go.ChangeMaps (open_string shut_string)

theorem connCancelsUpto_reads (os : Os) {H : Type} (enc : TypeId × Value → H) :
    (Rows.OpenSpec.upto Rows.connCancelsSpec).preRow enc Tryz.prog Tryz.f3 Rows.connCancelsUptoRow.domain false Rows.connCancelsUptoRow.laid ((gO os).forCall (fun _ _ => 0) ⟨#[], #[.slice none 0 0, .int .i64 0], []⟩).memory #[.slice none 0 0, .int .i64 0] := by
  have hw : (DataW.whole enc Tryz.prog ((gO os).forCall (fun _ _ => 0) ⟨#[], #[.slice none 0 0, .int .i64 0], []⟩).memory Tryz.f3.params.toList Rows.connCancelsSpec.vars false (#[.slice none 0 0, .int .i64 0] : Array Value).toList 8).map (fun x => (x.1, x.2.1)) =
      some ([.nil, .lit (.int .i64 0)], []) := by kernel_rfl
  obtain ⟨⟨x1, x2, x3⟩, hx, hx1⟩ := aV.1 hw
  simp only [Prod.mk.injEq] at hx1
  obtain ⟨rfl, rfl⟩ := hx1
  exact OpenSpec.preRow_of_cond 8 hx (by kernel_rfl) (fun k hk => by cases hk; kernel_rfl) (by kernel_rfl) (rj os _)

set_option maxRecDepth 100000 in
set_option maxHeartbeats 2000000 in
theorem connCancelsUpto_lifted (os : Os) (started : os.Started) (H : Type) (enc : TypeId × Value → H) (F : Stop.Interp) :
    ReturnsInHanded {} Tryz.checked os 3 .any ((Rows.OpenSpec.upto Rows.connCancelsSpec).preRow enc Tryz.prog Tryz.f3 Rows.connCancelsUptoRow.domain false Rows.connCancelsUptoRow.laid) (((Rows.OpenSpec.upto Rows.connCancelsSpec).at F).post enc Tryz.prog Tryz.f3 false true false false) := by
  refine returnsInHanded_of_row (C := Tryz.checked) (s := Rows.OpenSpec.upto Rows.connCancelsSpec) own started (by kernel_rfl) Tryz.func3
    (witness_row_atRef (enc := enc) (C := Tryz.checked) false (gO os) #[.slice none 0 0, .int .i64 0] rfl (by kernel_rfl) (by kernel_rfl) (by kernel_rfl) (connCancelsUpto_reads os enc)) ?_
  intro W base args ds gs before hval0 hW _ hcond hsz hL hsh _
  have hval : ∀ (j : Nat) t v, Tryz.f3.params[j]? = some t → args[j]? = some v → Value.okWide Tryz.prog W .any base t v := hval0
  have hW' := hW
  obtain ⟨p, q, hA0, hV0, rfl, _, _⟩ := hW
  have hA : DataW.TrodAll enc Tryz.prog W 0 (fun _ => true) true Tryz.f3.params.toList args.toList ds p := hA0
  have hAA := hA
  rw [Tryz.params3] at hA hval
  obtain ⟨v0, vs0, d0, ds0, p0, q0, hargs0, rfl, rfl, h0, r0⟩ := trodAll_cons hA
  obtain ⟨v1, vs1, d1, ds1, p1, q1, hargs1, rfl, rfl, h1, r1⟩ := trodAll_cons r0
  subst hargs1
  obtain ⟨rfl, rfl, rfl⟩ := trodAll_nil r1
  obtain rfl : args = #[v0, v1] := by cases args; simp_all
  obtain ⟨rfl, rfl⟩ := trodVars_none hV0
  obtain ⟨ad0, n0, c0, rfl⟩ := okWide_slice Tryz.underlying22 (hval 0 22 v0 rfl rfl)
  obtain ⟨fu0, hf0⟩ := h0
  obtain ⟨vv0, ms0, he0, hi0, hBu0, hN0⟩ := DJ hf0
  obtain rfl : .slice ad0 n0 c0 = vv0 := (aN he0).1
  have hBB0 : buX ms0 ≤ Rows.uptoBulk d0 := hBu0
  obtain ⟨a1, rfl, rfl, rfl, wf1⟩ := open_int Tryz.underlying3 (hval 1 3 v1 rfl rfl) h1
  have hcd : Rows.uptoBulkAll _ ≤ 1048576 := of_decide_eq_true (hcond _ rfl)
  simp only [Rows.uptoBulkAll, List.append_nil] at hcd
  clear hA0 hV0 hval0
  have walk := Fc _ ms0 a1 W hi0 (DL (by omega) hN0) (tE hL hsh)
  refine walk.mono ?_
  rintro e W' ⟨rfl, bel⟩
  have hst := kV bel _ _ _ _ (by rw [Tryz.params3]; intro t ht; simp only [aY, aZ, or_false] at ht; rcases ht with rfl | rfl <;> exact of_decide_eq_true (by kernel_rfl)) hAA (fun p hp => hW'.lt p (List.mem_append_left _ hp))
  refine ⟨_, rfl, _, _, _, [], _, [], hW', ?_, hst, rfl, bel.frame _, fun h => by cases h⟩
  exact trodAll_cons_mk (shut_bool Tryz.underlying4 _) trodAll_mk0

theorem connCancelsUpto_said : Rows.ConnCancelsUptoSaid :=
  OpenClaim.holds_of_cond 3 Tryz.f3 rfl rfl rfl rfl rfl rfl rfl ⟨rfl, rfl, rfl, rfl, rfl⟩ rfl rfl rfl rfl rfl (by kernel_rfl) Tryz.func3 (by kernel_rfl)
    (of_decide_eq_true (by kernel_rfl)) (by unfold Func.isWrapper; rw [if_neg (of_decide_eq_false (by kernel_rfl))]; exact ⟨rfl, rfl⟩)
    (fun os started H enc _ F => by rw [OpenClaim.pre_eq_preRow]; exact connCancelsUpto_lifted os started H enc F)

theorem connCancelsUpto_plain (f : FuncId) (fn : Func) (hf : Tryz.pinned.checked.prog.funcNamed "chancery/chancerylaw25.ConnCancels" = some f) (hfn : Tryz.pinned.checked.prog.funcs[f]? = some fn) :
    true = Tryz.pinned.checked.prog.looks [] ∧ ∀ (j : Nat) t, fn.params[j]? = some t → Tryz.pinned.checked.prog.wantsStandIn t = false := by
  obtain rfl : f = 3 := aD ((show Tryz.prog.funcNamed "chancery/chancerylaw25.ConnCancels" = some 3 by kernel_rfl).symm.trans hf) |>.symm
  obtain rfl : fn = Tryz.f3 := (aD (Tryz.func3.symm.trans hfn)).symm
  refine ⟨by kernel_rfl, fun j t ht => ?_⟩
  rw [Tryz.params3] at ht
  have hm := Array.mem_of_getElem? ht
  simp only [List.mem_toArray, aY, aZ, or_false] at hm
  rcases hm with rfl | rfl
  · exact (show Tryz.prog.wantsStandIn 22 = false by kernel_rfl)
  · exact (show Tryz.prog.wantsStandIn 3 = false by kernel_rfl)

theorem connCancelsUpto_card : Rows.ConnCancelsUptoCardSaid :=
  Claim7.holds_tied_plain_at .later [] _ _ _ _ connCancelsUpto_said (fun _ h => by cases h) (by kernel_rfl) (fun _ h => by cases h) connCancelsUpto_row_tie rfl ⟨rfl, rfl⟩ (by kernel_rfl) rfl connCancelsUpto_plain (by kernel_rfl)
end Go.Proofs.YtfhghdcbofbceaaGreatDoor
