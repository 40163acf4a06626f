/- The card of the law ConnPieces (second form). -/
import Derived.Test.YthpcpdplcicfoaaGreatDoorV22
import Derived.Test.YthpcpdplcicfoaaGreatDoorCards
import Derived.Test.YthpcpdplcicfoaaGreatDoorTie
import Derived.ProofKit
import Derived.OpenShut
import Derived.Deep.DeepHandedRow
import Derived.Deep.DeepWitnessRowRef
import Derived.Lib.LaidTab
import Derived.Lib.LaidIn
import Derived.Lib.LaidU8T
import Derived.SizedLaws
import Derived.Test.YthpcpdplcicfoaaGreatDoorShelf
import Derived.WalkKit
import Derived.WalkLawsBesides
import Derived.WalkSpells
import Derived.Deep.QuietTactic
import Derived.BigQuiet
import Derived.Lib.AppendStr
import Derived.Lib.OthersKept
import Derived.Lib.Hide
import Derived.Lib.TrimUEq
import Derived.Lib.ValidLaws
import Derived.Laws.Runes
import Derived.Test.YthpcpdplcicfoaaGreatDoorP1
namespace Go.Proofs.YthpcpdplcicfoaaGreatDoor
open Go.Shelf Go.ChangeShapes Go.WideShapes Go.ChangeAt Go.RowKit Go.Lib
open Go.ChangeMaps (open_string shut_string)
theorem connPiecesUpto_reads (os : Os) {H : Type} (enc : TypeId × Value → H) :
    (Rows.OpenSpec.upto Rows.connPiecesSpec).preRow enc Tryz.prog Tryz.f5 Rows.connPiecesUptoRow.domain false Rows.connPiecesUptoRow.laid ((gO os).forCall (fun _ _ => 0) ⟨#[], #[.string ⟨#[]⟩, .slice none 0 0], []⟩).memory #[.string ⟨#[]⟩, .slice none 0 0] := by
  have hw : (DataW.whole enc Tryz.prog ((gO os).forCall (fun _ _ => 0) ⟨#[], #[.string ⟨#[]⟩, .slice none 0 0], []⟩).memory Tryz.f5.params.toList Rows.connPiecesSpec.vars false (#[.string ⟨#[]⟩, .slice none 0 0] : Array Value).toList 8).map (fun x => (x.1, x.2.1)) =
      some ([.lit (.string []), .nil], []) := by kernel_rfl
  obtain ⟨⟨x1, x2, x3⟩, hx, hx1⟩ := aV.1 hw
  simp only [Prod.mk.injEq] at hx1
  obtain ⟨rfl, rfl⟩ := hx1
  exact OpenSpec.preRow_of_cond 8 hx (by kernel_rfl) (fun k hk => by cases hk; kernel_rfl) (by kernel_rfl) (rj os _)
set_option maxRecDepth 100000 in
set_option maxHeartbeats 2000000 in
theorem connPiecesUpto_lifted (os : Os) (started : os.Started) (H : Type) (enc : TypeId × Value → H) (F : Stop.Interp) :
    ReturnsInHanded {} Tryz.checked os 5 .any ((Rows.OpenSpec.upto Rows.connPiecesSpec).preRow enc Tryz.prog Tryz.f5 Rows.connPiecesUptoRow.domain false Rows.connPiecesUptoRow.laid) (((Rows.OpenSpec.upto Rows.connPiecesSpec).at F).post enc Tryz.prog Tryz.f5 false true false false) := by
  refine returnsInHanded_of_row (C := Tryz.checked) (s := Rows.OpenSpec.upto Rows.connPiecesSpec) own started (by kernel_rfl) Tryz.func5
    (witness_row_atRef (enc := enc) (C := Tryz.checked) false (gO os) #[.string ⟨#[]⟩, .slice none 0 0] rfl (by kernel_rfl) (by kernel_rfl) (by kernel_rfl) (connPiecesUpto_reads os enc)) ?_
  intro W base args ds gs before hval0 hW _ hcond hsz hL hsh _
  have hval : ∀ (j : Nat) t v, Tryz.f5.params[j]? = some t → args[j]? = some v → Value.okWide Tryz.prog W .any base t v := hval0
  have hW' := hW
  obtain ⟨p, q, hA0, hV0, rfl, _, _⟩ := hW
  have hA : DataW.TrodAll enc Tryz.prog W 0 (fun _ => true) true Tryz.f5.params.toList args.toList ds p := hA0
  have hAA := hA
  rw [Tryz.params5] at hA hval
  obtain ⟨v0, vs0, d0, ds0, p0, q0, hargs0, rfl, rfl, h0, r0⟩ := trodAll_cons hA
  obtain ⟨v1, vs1, d1, ds1, p1, q1, hargs1, rfl, rfl, h1, r1⟩ := trodAll_cons r0
  subst hargs1
  obtain ⟨rfl, rfl, rfl⟩ := trodAll_nil r1
  obtain rfl : args = #[v0, v1] := by cases args; simp_all
  obtain ⟨rfl, rfl⟩ := trodVars_none hV0
  obtain ⟨s0, rfl, rfl, rfl, ws0⟩ := open_string Tryz.underlying9 (hval 0 9 v0 rfl rfl) h0
  obtain ⟨ad1, n1, c1, rfl⟩ := okWide_slice Tryz.underlying47 (hval 1 47 v1 rfl rfl)
  obtain ⟨xs1, hi1, hx1⟩ : ∃ xs, hC .i64 W (.slice ad1 n1 c1) xs ∧ xs.length ≤ 9223372036854775807 := by
    obtain ⟨fuel, hf⟩ := h1
    rcases open_ints Tryz.underlying47 Tryz.underlying3 (by kernel_rfl) hf with ⟨hcs, _⟩ | ⟨a, len, cap, zs, hcs, _, hl, hm, hz, _, hcell, _⟩
    · simp [Value.cells] at hcs
      obtain ⟨rfl, rfl, rfl⟩ := hcs
      exact ⟨[], ⟨none, 0, rfl, by simp, fun h => by simp at h⟩, by simp⟩
    · simp [Value.cells] at hcs
      obtain ⟨rfl, rfl, rfl⟩ := hcs
      simp only [if_true] at hz
      have hlen : (zs.take n1).length = n1 := by rw [List.length_take]; omega
      refine ⟨zs.take n1, ⟨some a, c1, by rw [hlen], by rw [hlen]; exact hl, fun h0 => ?_⟩, by rw [hlen]; unfold maxLen at hm; omega⟩
      have h1 := hcell 0 (by omega)
      have hs0 := mb h1
      have ha : a = ⟨a.block, a.off, none⟩ := by
        have e : (a.add 0) = a := by simp [Addr.add]
        rw [e] at hs0
        cases a
        simp only at hs0
        rw [hs0]
      refine ⟨a.block, a.off, by rw [← ha], fun k x hk => ?_⟩
      have hkl : k < n1 := by
        rcases Nat.lt_or_ge k n1 with h | h
        · exact h
        · rw [List.getElem?_eq_none (by omega)] at hk; cases hk
      have h2 := hcell k (by omega)
      rw [List.getElem?_take_of_lt hkl] at hk
      rw [List.getD_eq_getElem?_getD, hk] at h2
      rw [ha, Addr.add_lit] at h2
      exact h2
  clear hA0 hV0 hval0
  have walk := ca s0.data.toList xs1 (.slice ad1 n1 c1) W hi1 hx1 (tE hL hsh)
  refine walk.mono ?_
  rintro e W' ⟨rfl, bel⟩
  have hst := kV bel _ _ _ _ (by rw [Tryz.params5]; intro t ht; simp only [aY, aZ, or_false] at ht; rcases ht with rfl | rfl <;> exact of_decide_eq_true (by kernel_rfl)) hAA (fun p hp => hW'.lt p (List.mem_append_left _ hp))
  refine ⟨_, rfl, _, _, _, [], _, [], hW', ?_, hst, rfl, bel.frame _, fun h => by cases h⟩
  exact trodAll_cons_mk (shut_bool Tryz.underlying4 _) trodAll_mk0
theorem connPiecesUpto_said : Rows.ConnPiecesUptoSaid :=
  OpenClaim.holds_of_cond 5 Tryz.f5 rfl rfl rfl rfl rfl rfl rfl ⟨rfl, rfl, rfl, rfl, rfl⟩ rfl rfl rfl rfl rfl (by kernel_rfl) Tryz.func5 (by kernel_rfl)
    (of_decide_eq_true (by kernel_rfl)) (by unfold Func.isWrapper; rw [if_neg (of_decide_eq_false (by kernel_rfl))]; exact ⟨rfl, rfl⟩)
    (fun os started H enc _ F => by rw [OpenClaim.pre_eq_preRow]; exact connPiecesUpto_lifted os started H enc F)
theorem connPiecesUpto_plain (f : FuncId) (fn : Func) (hf : Tryz.pinned.checked.prog.funcNamed "chancery/chancerylaw25.ConnPieces" = some f) (hfn : Tryz.pinned.checked.prog.funcs[f]? = some fn) :
    true = Tryz.pinned.checked.prog.looks [] ∧ ∀ (j : Nat) t, fn.params[j]? = some t → Tryz.pinned.checked.prog.wantsStandIn t = false := by
  obtain rfl : f = 5 := aD ((show Tryz.prog.funcNamed "chancery/chancerylaw25.ConnPieces" = some 5 by kernel_rfl).symm.trans hf) |>.symm
  obtain rfl : fn = Tryz.f5 := (aD (Tryz.func5.symm.trans hfn)).symm
  refine ⟨by kernel_rfl, fun j t ht => ?_⟩
  rw [Tryz.params5] at ht
  have hm := Array.mem_of_getElem? ht
  simp only [List.mem_toArray, aY, aZ, or_false] at hm
  rcases hm with rfl | rfl
  · exact (show Tryz.prog.wantsStandIn 9 = false by kernel_rfl)
  · exact (show Tryz.prog.wantsStandIn 47 = false by kernel_rfl)
theorem connPiecesUpto_card : Rows.ConnPiecesUptoCardSaid :=
  Claim7.holds_tied_plain_at .later [] _ _ _ _ connPiecesUpto_said (fun _ h => by cases h) (by kernel_rfl) (fun _ h => by cases h) connPiecesUpto_row_tie rfl ⟨rfl, rfl⟩ (by kernel_rfl) rfl connPiecesUpto_plain (by kernel_rfl)
end Go.Proofs.YthpcpdplcicfoaaGreatDoor
