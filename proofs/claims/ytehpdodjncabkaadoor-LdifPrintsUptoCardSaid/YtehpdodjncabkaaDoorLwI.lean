/- chancerybook.Stays: what was lent is as it was (genstays.py); the law LdifPrints (genlp.py). -/
import Derived.Test.YtehpdodjncabkaaDoorBkI
import Derived.Test.YtehpdodjncabkaaDoorBkG
import Derived.Test.YtehpdodjncabkaaDoorRngR
import Derived.Test.YtehpdodjncabkaaDoorRfG
import Derived.Test.YtehpdodjncabkaaDoorLwC
namespace Go.Proofs.YtehpdodjncabkaaDoor
open Go.RowKit Go.Lib

theorem exec_loadRow {P : Program} {w : World} {o : Oper} {a : Act} (t : TypeId) (x : Operand) (ho : o.op = .load t x)
    (g : Nat) (ty : TypeId) (cs : Array Value) (fr : Nat × Nat) (hx : a.eval x = .pointer (some ⟨g, 0, none⟩)) (hg : w.heap[g]? = some (.cells cs ty fr)) (d : TypeDesc) (hu : P.underlying t = some d)
    (hd : (match d with | .struct _ | .array _ _ => true | _ => false) = true) (hi : (P.info? t).map (·.size) = some cs.size) : (execOp a.eval o).run P w = .ok (.value (.agg cs)) w := by
  have hr := run_loadVar_row (P := P) w g ty t cs fr d hg hu hd hi
  unfold execOp
  simp only [ho, hx, Instr.loadAt, Instr.sureAddr, Sem.run_bind, Sem.run_pure, Result.andThen_ok, hr]
theorem AttrsAt.shape {w : World} {v : Value} {al : List At} (h : AttrsAt w v al) : ∃ a c, v = .slice a al.length c := by
  obtain ⟨a, c, e, _⟩ := h
  exact ⟨a, c, e⟩
theorem ModsAt.shape {w : World} {v : Value} {ml : List Md} (h : ModsAt w v ml) : ∃ a c, v = .slice a ml.length c := by
  obtain ⟨a, c, e, _⟩ := h
  exact ⟨a, c, e⟩
set_option maxRecDepth 100000 in
set_option maxHeartbeats 8000000 in
theorem Stays_any (B : Nat) (uF uS uM uA uC vM vA : Value) (al : List At) (ml : List Md) (w : World) (hF : LentF B w uF) (hS : LentS B w uS []) (hM : LentM B w uM ml) (hA : LentA B w uA al) (hC : LentC B w uC) (hvA : AttrsAt w vA al) (hvM : ModsAt w vM ml)
    (hal : al.length ≤ 1000000000) (hav : ∀ x ∈ al, x.2.length ≤ 1000000000) (hml : ml.length ≤ 1000000000) (hmv : ∀ x ∈ ml, x.2.2.length ≤ 1000000000) :
    Calls Tryd.prog 12 #[.agg (msgR uF uS uM uA uC), .agg (msgR (.slice none 0 0) (.slice none 0 0) vM vA (.slice none 0 0))] w fun e w' => e = .returned (.bool true) ∧ Below w.heap.size w w' := by
  obtain ⟨gF, capF, hfF, hcF, j1⟩ := hF.form
  obtain ⟨gC, capC, hfC, hcC, j2⟩ := hC.form
  obtain ⟨gM, capM, hfM, hcM, j3⟩ := hM.form
  obtain ⟨gA, capA, us, hfA, hcA, j4, hul, j5⟩ := hA.form
  obtain ⟨gS, capS, hfS, hcS, j6, j7⟩ := hS.form
  clear j1 j2 j3 j4 j5 j6 j7
  simp only [List.length_nil] at hfS
  obtain ⟨aV, cV, hfV⟩ := hvA.shape
  obtain ⟨aN, cN, hfN⟩ := hvM.shape
  subst hfF hfC hfM hfA hfS hfV hfN
  have b2 : Below w.heap.size w ((w.alloc (.cells #[.int .i64 0, .int .i64 0, .string ⟨#[]⟩, .int .i64 0, .bool false, .string ⟨#[]⟩, .int .i64 0, .int .i64 0, .int .i64 0, .int .i64 0, .bool false, .slice (some ⟨gF, 0, none⟩) 0 capF, .slice (some ⟨gS, 0, none⟩) 0 capS, .slice (some ⟨gM, 0, none⟩) ml.length capM, .slice (some ⟨gA, 0, none⟩) al.length capA, .string ⟨#[]⟩, .string ⟨#[]⟩, .bool false, .bool false, .string ⟨#[]⟩, .string ⟨#[]⟩, .string ⟨#[]⟩, .bool false, .int .i64 0, .int .i64 0, .string ⟨#[]⟩, .string ⟨#[]⟩, .slice (some ⟨gC, 0, none⟩) 0 capC] 32)).alloc (.cells #[.int .i64 0, .int .i64 0, .string ⟨#[]⟩, .int .i64 0, .bool false, .string ⟨#[]⟩, .int .i64 0, .int .i64 0, .int .i64 0, .int .i64 0, .bool false, .slice none 0 0, .slice none 0 0, .slice aN ml.length cN, .slice aV al.length cV, .string ⟨#[]⟩, .string ⟨#[]⟩, .bool false, .bool false, .string ⟨#[]⟩, .string ⟨#[]⟩, .string ⟨#[]⟩, .bool false, .int .i64 0, .int .i64 0, .string ⟨#[]⟩, .string ⟨#[]⟩, .slice none 0 0] 32)) := ((Below.refl _ _).alloc (Nat.le_refl _) _).alloc (by simp) _
  have k1 : (((w.alloc (.cells #[.int .i64 0, .int .i64 0, .string ⟨#[]⟩, .int .i64 0, .bool false, .string ⟨#[]⟩, .int .i64 0, .int .i64 0, .int .i64 0, .int .i64 0, .bool false, .slice (some ⟨gF, 0, none⟩) 0 capF, .slice (some ⟨gS, 0, none⟩) 0 capS, .slice (some ⟨gM, 0, none⟩) ml.length capM, .slice (some ⟨gA, 0, none⟩) al.length capA, .string ⟨#[]⟩, .string ⟨#[]⟩, .bool false, .bool false, .string ⟨#[]⟩, .string ⟨#[]⟩, .string ⟨#[]⟩, .bool false, .int .i64 0, .int .i64 0, .string ⟨#[]⟩, .string ⟨#[]⟩, .slice (some ⟨gC, 0, none⟩) 0 capC] 32)).alloc (.cells #[.int .i64 0, .int .i64 0, .string ⟨#[]⟩, .int .i64 0, .bool false, .string ⟨#[]⟩, .int .i64 0, .int .i64 0, .int .i64 0, .int .i64 0, .bool false, .slice none 0 0, .slice none 0 0, .slice aN ml.length cN, .slice aV al.length cV, .string ⟨#[]⟩, .string ⟨#[]⟩, .bool false, .bool false, .string ⟨#[]⟩, .string ⟨#[]⟩, .string ⟨#[]⟩, .bool false, .int .i64 0, .int .i64 0, .string ⟨#[]⟩, .string ⟨#[]⟩, .slice none 0 0] 32))).heap[w.heap.size]? = some (.cells (msgR (.slice (some ⟨gF, 0, none⟩) 0 capF) (.slice (some ⟨gS, 0, none⟩) 0 capS) (.slice (some ⟨gM, 0, none⟩) ml.length capM) (.slice (some ⟨gA, 0, none⟩) al.length capA) (.slice (some ⟨gC, 0, none⟩) 0 capC)) 32 (0, 0)) := (Lib.alloc_old _ _ _ (by simp)).trans (alloc_at _ _ _ rfl)
  have k2 : (((w.alloc (.cells #[.int .i64 0, .int .i64 0, .string ⟨#[]⟩, .int .i64 0, .bool false, .string ⟨#[]⟩, .int .i64 0, .int .i64 0, .int .i64 0, .int .i64 0, .bool false, .slice (some ⟨gF, 0, none⟩) 0 capF, .slice (some ⟨gS, 0, none⟩) 0 capS, .slice (some ⟨gM, 0, none⟩) ml.length capM, .slice (some ⟨gA, 0, none⟩) al.length capA, .string ⟨#[]⟩, .string ⟨#[]⟩, .bool false, .bool false, .string ⟨#[]⟩, .string ⟨#[]⟩, .string ⟨#[]⟩, .bool false, .int .i64 0, .int .i64 0, .string ⟨#[]⟩, .string ⟨#[]⟩, .slice (some ⟨gC, 0, none⟩) 0 capC] 32)).alloc (.cells #[.int .i64 0, .int .i64 0, .string ⟨#[]⟩, .int .i64 0, .bool false, .string ⟨#[]⟩, .int .i64 0, .int .i64 0, .int .i64 0, .int .i64 0, .bool false, .slice none 0 0, .slice none 0 0, .slice aN ml.length cN, .slice aV al.length cV, .string ⟨#[]⟩, .string ⟨#[]⟩, .bool false, .bool false, .string ⟨#[]⟩, .string ⟨#[]⟩, .string ⟨#[]⟩, .bool false, .int .i64 0, .int .i64 0, .string ⟨#[]⟩, .string ⟨#[]⟩, .slice none 0 0] 32))).heap[w.heap.size + 1]? = some (.cells (msgR (.slice none 0 0) (.slice none 0 0) (.slice aN ml.length cN) (.slice aV al.length cV) (.slice none 0 0)) 32 (0, 0)) := alloc_at _ _ _ (by simp)
  have K : Kp 32 w ((w.alloc (.cells #[.int .i64 0, .int .i64 0, .string ⟨#[]⟩, .int .i64 0, .bool false, .string ⟨#[]⟩, .int .i64 0, .int .i64 0, .int .i64 0, .int .i64 0, .bool false, .slice (some ⟨gF, 0, none⟩) 0 capF, .slice (some ⟨gS, 0, none⟩) 0 capS, .slice (some ⟨gM, 0, none⟩) ml.length capM, .slice (some ⟨gA, 0, none⟩) al.length capA, .string ⟨#[]⟩, .string ⟨#[]⟩, .bool false, .bool false, .string ⟨#[]⟩, .string ⟨#[]⟩, .string ⟨#[]⟩, .bool false, .int .i64 0, .int .i64 0, .string ⟨#[]⟩, .string ⟨#[]⟩, .slice (some ⟨gC, 0, none⟩) 0 capC] 32)).alloc (.cells #[.int .i64 0, .int .i64 0, .string ⟨#[]⟩, .int .i64 0, .bool false, .string ⟨#[]⟩, .int .i64 0, .int .i64 0, .int .i64 0, .int .i64 0, .bool false, .slice none 0 0, .slice none 0 0, .slice aN ml.length cN, .slice aV al.length cV, .string ⟨#[]⟩, .string ⟨#[]⟩, .bool false, .bool false, .string ⟨#[]⟩, .string ⟨#[]⟩, .string ⟨#[]⟩, .bool false, .int .i64 0, .int .i64 0, .string ⟨#[]⟩, .string ⟨#[]⟩, .slice none 0 0] 32)) := Kp.below b2
  have HF := Lib.hid (hF.kp K (by decide))
  have HC := Lib.hid (hC.kp K (by decide))
  have HM := Lib.hid (hM.kp K (by decide) (by decide))
  have HA := Lib.hid (hA.kp K (by decide) (by decide))
  have HS := Lib.hid (hS.kp K (by decide))
  have HVA := Lib.hid (hvA.below b2)
  have HVM := Lib.hid (hvM.below b2)
  have HV := Lib.hid hav
  have HW := Lib.hid hmv
  clear hF hC hM hA hS hvA hvM hav hmv K
  unfold msgR
  go_enter Tryd.func12, Tryd.ntmps12
  refine wp_seq ?_
  refine wp_region_list ?_
  refine wpList_plain rfl fun K hK => ?_
  go_simp
  refine hK _ _ ?_; clear hK K
  refine wpList_plain rfl fun K hK => ?_
  go_simp
  refine hK _ _ ?_; clear hK K
  generalize ((w.alloc (.cells #[.int .i64 0, .int .i64 0, .string ⟨#[]⟩, .int .i64 0, .bool false, .string ⟨#[]⟩, .int .i64 0, .int .i64 0, .int .i64 0, .int .i64 0, .bool false, .slice (some ⟨gF, 0, none⟩) 0 capF, .slice (some ⟨gS, 0, none⟩) 0 capS, .slice (some ⟨gM, 0, none⟩) ml.length capM, .slice (some ⟨gA, 0, none⟩) al.length capA, .string ⟨#[]⟩, .string ⟨#[]⟩, .bool false, .bool false, .string ⟨#[]⟩, .string ⟨#[]⟩, .string ⟨#[]⟩, .bool false, .int .i64 0, .int .i64 0, .string ⟨#[]⟩, .string ⟨#[]⟩, .slice (some ⟨gC, 0, none⟩) 0 capC] 32)).alloc (.cells #[.int .i64 0, .int .i64 0, .string ⟨#[]⟩, .int .i64 0, .bool false, .string ⟨#[]⟩, .int .i64 0, .int .i64 0, .int .i64 0, .int .i64 0, .bool false, .slice none 0 0, .slice none 0 0, .slice aN ml.length cN, .slice aV al.length cV, .string ⟨#[]⟩, .string ⟨#[]⟩, .bool false, .bool false, .string ⟨#[]⟩, .string ⟨#[]⟩, .string ⟨#[]⟩, .bool false, .int .i64 0, .int .i64 0, .string ⟨#[]⟩, .string ⟨#[]⟩, .slice none 0 0] 32)) = w2 at b2 k1 k2 HF HC HM HA HS HVA HVM ⊢
  obtain ⟨c11, c12, c13, c14, c27⟩ := msgR_cells k1
  obtain ⟨d11, d12, d13, d14, d27⟩ := msgR_cells k2
  clear c11 c13 c27 d11 d13 d27 hcF hcC hcM hcS
  have K1 := Lib.hid k1
  have K2 := Lib.hid k2
  have B2 := Lib.hid b2
  clear k1 k2 b2
  go_wp2_with fail
  go_loopw [5] (fun i wr => ∃ k m : Nat, i = .int .i64 (k : Int) ∧ k ≤ al.length ∧ wr = w2.drewN m) (fun i _ => al.length - (RowKit.intOf i).toNat)
  case atStart => exact ⟨0, 0, rfl, by omega, rfl⟩
  case round =>
    obtain ⟨k, m, rfl, hk, rfl⟩ := hrel
    by_cases hkl : k < al.length
    · obtain ⟨x, hx⟩ : ∃ x, al[k]? = some x := ⟨al[k], List.getElem?_eq_getElem hkl⟩
      have hxl := HV.out x (List.mem_of_getElem? hx)
      have hal0 : al ≠ [] := by intro e; rw [e] at hkl; simp at hkl
      obtain ⟨g', cap', us', e', _, _, _, hcl⟩ := HA.out.form
      cases e'
      obtain ⟨_, u, _, p2, hu⟩ := hcl k x hx
      obtain ⟨a4, cap4, e4, _, hcell4⟩ := HVA.out
      obtain ⟨g4, o4, ha4, hcc⟩ := hcell4 hal0
      cases e4
      subst ha4
      obtain ⟨_, z, r2, hz⟩ := hcc k x hx
      clear hcl hcell4 hcc hx hal0
      have i1 : (k : Int) < (al.length : Int) := by omega
      have i3 : decide ((k : Int) < (al.length : Int)) = true := decide_eq_true i1
      have ks := fun a => (StaysTexts_any B u z x.2 x.2 (w2.drewN (m + a)) (show LentS B (w2.drewN (m + a)) u x.2 from hu) (hz.drewN _) hxl (Nat.le_trans hxl (by decide))).mono (fun e w'' h => (show e = .returned (.bool true) ∧ ∃ n, w'' = w2.drewN (m + n) from ⟨by simpa using h.1, h.2.elim fun n hn => ⟨a + n, by rw [hn, World.drewN_drewN, Nat.add_assoc]⟩⟩))
      obtain ⟨g5, cap5, e5, _⟩ := hu
      obtain ⟨s6, d6, e6, _, _⟩ := hz
      subst e5 e6
      clear c12 d12 hul
      go_wp2
      go_quiet (exact ks _)
      go_wp2
      exact ⟨⟨k + 1, _, by go_num, by omega, rfl⟩, by simp [RowKit.intOf]; omega⟩
    · obtain rfl : k = al.length := by omega
      have i3 : decide ((al.length : Int) < (al.length : Int)) = false := decide_eq_false (by omega)
      have b3 : Below w.heap.size w (w2.drewN m) := bel_drwN B2.out m
      have ksm := SameMsg_any 0 0 [] 0 false [] 0 0 0 0 false [] [] false false [] [] [] false 0 0 [] [] (some ⟨gF, 0, none⟩) (some ⟨gS, 0, none⟩) (some ⟨gC, 0, none⟩) capF capS capC (.slice (some ⟨gM, 0, none⟩) ml.length capM) (.slice (some ⟨gA, 0, none⟩) al.length capA) (.slice aN ml.length cN) (.slice aV al.length cV) al ml (w2.drewN (m + 1)) (HA.out.attrs.drewN _) (HM.out.mods.drewN _) (HVA.out.drewN _) (HVM.out.drewN _) hal HV.out hml HW.out
      have k1 : (w2.drewN m).heap[w.heap.size]? = some (.cells (msgR (.slice (some ⟨gF, 0, none⟩) 0 capF) (.slice (some ⟨gS, 0, none⟩) 0 capS) (.slice (some ⟨gM, 0, none⟩) ml.length capM) (.slice (some ⟨gA, 0, none⟩) al.length capA) (.slice (some ⟨gC, 0, none⟩) 0 capC)) 32 (0, 0)) := K1.out
      have k2 : (w2.drewN m).heap[w.heap.size + 1]? = some (.cells (msgR (.slice none 0 0) (.slice none 0 0) (.slice aN ml.length cN) (.slice aV al.length cV) (.slice none 0 0)) 32 (0, 0)) := K2.out
      clear c12 d12 d14
      go_wp2_with fail
      have m0 : (w2.drewN m).drew = w2.drewN (m + 1) := rfl
      obtain ⟨_, _, eF, hcF, pF⟩ := HF.out.form
      obtain ⟨_, _, eC, hcC, pC⟩ := HC.out.form
      obtain ⟨_, _, eM, hcM, pM⟩ := HM.out.form
      obtain ⟨_, _, _, eA, _, pA, _⟩ := HA.out.form
      cases eF
      cases eC
      cases eM
      cases eA
      refine wp_region_held (S := (fun w' => w'.heap[w.heap.size]? = some (.cells (msgR (.slice (some ⟨gF, 0, none⟩) 0 capF) (.slice (some ⟨gS, 0, none⟩) 0 capS) (.slice (some ⟨gM, 0, none⟩) ml.length capM) (.slice (some ⟨gA, 0, none⟩) al.length capA) (.slice (some ⟨gC, 0, none⟩) 0 capC)) 32 (0, 0)) ∧ w'.heap[w.heap.size + 1]? = some (.cells (msgR (.slice none 0 0) (.slice none 0 0) (.slice aN ml.length cN) (.slice aV al.length cV) (.slice none 0 0)) 32 (0, 0)) ∧ w'.cell? ⟨gF, 2, none⟩ = some (.string ⟨#[109, 97, 114, 107]⟩) ∧ w'.cell? ⟨gC, 0, none⟩ = some (.string ⟨#[109, 97, 114, 107]⟩) ∧ w'.cell? ⟨gM, ml.length * 3 + 1, none⟩ = some (.string ⟨#[109, 97, 114, 107]⟩) ∧ w'.cell? ⟨gA, al.length * 2, none⟩ = some (.string ⟨#[109, 97, 114, 107]⟩))) (by kernel_rfl) ?_
      have b4 : Below w.heap.size w (w2.drewN (m + 1)) := bel_drwN B2.out _
      have T4 : (fun w' => w'.heap[w.heap.size]? = some (.cells (msgR (.slice (some ⟨gF, 0, none⟩) 0 capF) (.slice (some ⟨gS, 0, none⟩) 0 capS) (.slice (some ⟨gM, 0, none⟩) ml.length capM) (.slice (some ⟨gA, 0, none⟩) al.length capA) (.slice (some ⟨gC, 0, none⟩) 0 capC)) 32 (0, 0)) ∧ w'.heap[w.heap.size + 1]? = some (.cells (msgR (.slice none 0 0) (.slice none 0 0) (.slice aN ml.length cN) (.slice aV al.length cV) (.slice none 0 0)) 32 (0, 0)) ∧ w'.cell? ⟨gF, 2, none⟩ = some (.string ⟨#[109, 97, 114, 107]⟩) ∧ w'.cell? ⟨gC, 0, none⟩ = some (.string ⟨#[109, 97, 114, 107]⟩) ∧ w'.cell? ⟨gM, ml.length * 3 + 1, none⟩ = some (.string ⟨#[109, 97, 114, 107]⟩) ∧ w'.cell? ⟨gA, al.length * 2, none⟩ = some (.string ⟨#[109, 97, 114, 107]⟩)) (w2.drewN (m + 1)) := ⟨k1, k2, pF, pC, pM, pA⟩
      have S4 : LentS B (w2.drewN (m + 1)) (.slice (some ⟨gS, 0, none⟩) 0 capS) [] := HS.out
      change wpAnyH _ _ _ _ _ _ _ _ (w2.drewN (m + 1))
      clear k1 k2 pF pC pM pA c14 m0 b3 HF HC HM HA HS HVA HVM HV HW K1 K2 B2 i3 hk hkl hul
      generalize w2.drewN (m + 1) = w3 at ksm b4 T4 S4 ⊢
      refine anyH_take 0 (.agg (msgR (.slice (some ⟨gF, 0, none⟩) 0 capF) (.slice (some ⟨gS, 0, none⟩) 0 capS) (.slice (some ⟨gM, 0, none⟩) ml.length capM) (.slice (some ⟨gA, 0, none⟩) al.length capA) (.slice (some ⟨gC, 0, none⟩) 0 capC))) rfl (by kernel_rfl) (by kernel_rfl) (by kernel_rfl) (fun _ _ _ h => h) (by rfl) (fun w' hS => by exact exec_loadRow 32 (.tmp 2) rfl w.heap.size 32 _ (0, 0) (by rfl) hS.1 _ Tryd.underlying32 rfl (by rfl)) T4 (fun K hK => ?_); go_simp; refine hK _ _ ?_; clear hK K
      refine anyH_take 1 (.agg (msgR (.slice none 0 0) (.slice none 0 0) (.slice aN ml.length cN) (.slice aV al.length cV) (.slice none 0 0))) rfl (by kernel_rfl) (by kernel_rfl) (by kernel_rfl) (fun _ _ _ h => h) (by rfl) (fun w' hS => by exact exec_loadRow 32 (.tmp 3) rfl (w.heap.size + 1) 32 _ (0, 0) (by rfl) hS.2.1 _ Tryd.underlying32 rfl (by rfl)) T4 (fun K hK => ?_); go_simp; refine hK _ _ ?_; clear hK K
      refine anyH_one 2 (by kernel_rfl) rfl (by rfl) (fun K hK => ?_); go_simp; go_wp2_with fail
      refine Calls.mono (show Calls _ _ _ _ _ from ksm) ?_
      rintro e w5 ⟨rfl, hb5⟩
      obtain ⟨t1, t2, t3, t4, t5, t6⟩ := T4
      have T5 : (fun w' => w'.heap[w.heap.size]? = some (.cells (msgR (.slice (some ⟨gF, 0, none⟩) 0 capF) (.slice (some ⟨gS, 0, none⟩) 0 capS) (.slice (some ⟨gM, 0, none⟩) ml.length capM) (.slice (some ⟨gA, 0, none⟩) al.length capA) (.slice (some ⟨gC, 0, none⟩) 0 capC)) 32 (0, 0)) ∧ w'.heap[w.heap.size + 1]? = some (.cells (msgR (.slice none 0 0) (.slice none 0 0) (.slice aN ml.length cN) (.slice aV al.length cV) (.slice none 0 0)) 32 (0, 0)) ∧ w'.cell? ⟨gF, 2, none⟩ = some (.string ⟨#[109, 97, 114, 107]⟩) ∧ w'.cell? ⟨gC, 0, none⟩ = some (.string ⟨#[109, 97, 114, 107]⟩) ∧ w'.cell? ⟨gM, ml.length * 3 + 1, none⟩ = some (.string ⟨#[109, 97, 114, 107]⟩) ∧ w'.cell? ⟨gA, al.length * 2, none⟩ = some (.string ⟨#[109, 97, 114, 107]⟩)) w5 := ⟨(hb5.block _ (Array.getElem?_eq_some_iff.1 t1).1).trans t1, (hb5.block _ (Array.getElem?_eq_some_iff.1 t2).1).trans t2, (hb5.cell (lt_of_cell t3)).trans t3, (hb5.cell (lt_of_cell t4)).trans t4, (hb5.cell (lt_of_cell t5)).trans t5, (hb5.cell (lt_of_cell t6)).trans t6⟩
      have kst := StaysTexts_any B _ (.slice none 0 0) [] [] w5 (S4.kp (Kp.below (t := 32) hb5) (by decide)) ⟨none, 0, rfl, Nat.le_refl _, fun h => absurd rfl h⟩ (by simp) (by simp)
      have b5 := b4.trans (hb5.mono b4.size)
      clear t1 t2 t3 t4 t5 t6 S4 b4 hb5 ksm
      refine hK _ _ T5 ?_; clear hK K
      refine anyH_one 3 (by kernel_rfl) rfl (by rfl) (fun K hK => ?_); go_simp; refine hK _ _ T5 ?_; clear hK K
      refine anyH_take 4 (.pointer (some ⟨w.heap.size, 12, none⟩)) rfl (by kernel_rfl) (by kernel_rfl) (by kernel_rfl) (fun _ _ _ h => h) (by rfl) (fun w' hS => by go_simp) T5 (fun K hK => ?_); go_simp; refine hK _ _ ?_; clear hK K
      refine anyH_take 6 (.pointer (some ⟨w.heap.size + 1, 12, none⟩)) rfl (by kernel_rfl) (by kernel_rfl) (by kernel_rfl) (fun _ _ _ h => h) (by rfl) (fun w' hS => by go_simp) T5 (fun K hK => ?_); go_simp; refine hK _ _ ?_; clear hK K
      refine anyH_take 5 (.slice (some ⟨gS, 0, none⟩) 0 capS) rfl (by kernel_rfl) (by kernel_rfl) (by kernel_rfl) (fun _ _ _ h => h) (by rfl) (fun w' hS => by have q := (msgR_cells hS.1).2.1; go_simp) T5 (fun K hK => ?_); go_simp; refine hK _ _ ?_; clear hK K
      refine anyH_take 7 (.slice none 0 0) rfl (by kernel_rfl) (by kernel_rfl) (by kernel_rfl) (fun _ _ _ h => h) (by rfl) (fun w' hS => by have q := (msgR_cells hS.2.1).2.1; go_simp) T5 (fun K hK => ?_); go_simp; refine hK _ _ ?_; clear hK K
      refine anyH_one 8 (by kernel_rfl) rfl (by rfl) (fun K hK => ?_); go_simp; go_wp2_with fail
      refine Calls.mono (show Calls _ _ _ _ _ from kst) ?_
      rintro e w6 ⟨rfl, m6, rfl⟩
      have T6 : (fun w' => w'.heap[w.heap.size]? = some (.cells (msgR (.slice (some ⟨gF, 0, none⟩) 0 capF) (.slice (some ⟨gS, 0, none⟩) 0 capS) (.slice (some ⟨gM, 0, none⟩) ml.length capM) (.slice (some ⟨gA, 0, none⟩) al.length capA) (.slice (some ⟨gC, 0, none⟩) 0 capC)) 32 (0, 0)) ∧ w'.heap[w.heap.size + 1]? = some (.cells (msgR (.slice none 0 0) (.slice none 0 0) (.slice aN ml.length cN) (.slice aV al.length cV) (.slice none 0 0)) 32 (0, 0)) ∧ w'.cell? ⟨gF, 2, none⟩ = some (.string ⟨#[109, 97, 114, 107]⟩) ∧ w'.cell? ⟨gC, 0, none⟩ = some (.string ⟨#[109, 97, 114, 107]⟩) ∧ w'.cell? ⟨gM, ml.length * 3 + 1, none⟩ = some (.string ⟨#[109, 97, 114, 107]⟩) ∧ w'.cell? ⟨gA, al.length * 2, none⟩ = some (.string ⟨#[109, 97, 114, 107]⟩)) (w5.drewN m6) := T5
      have b6 : Below w.heap.size w (w5.drewN m6) := bel_drwN b5 _
      generalize w5.drewN m6 = w6 at T6 b6 ⊢
      clear T5 b5 kst
      refine hK _ _ T6 ?_; clear hK K
      refine anyH_one 9 (by kernel_rfl) rfl (by rfl) (fun K hK => ?_); go_simp; refine hK _ _ T6 ?_; clear hK K
      refine anyH_one 10 (by kernel_rfl) rfl (by rfl) (fun K hK => ?_); go_simp; refine hK _ _ T6 ?_; clear hK K
      refine anyH_take 11 (.pointer (some ⟨w.heap.size, 14, none⟩)) rfl (by kernel_rfl) (by kernel_rfl) (by kernel_rfl) (fun _ _ _ h => h) (by rfl) (fun w' hS => by go_simp) T6 (fun K hK => ?_); go_simp; refine hK _ _ ?_; clear hK K
      refine anyH_take 13 (.pointer (some ⟨w.heap.size, 14, none⟩)) rfl (by kernel_rfl) (by kernel_rfl) (by kernel_rfl) (fun _ _ _ h => h) (by rfl) (fun w' hS => by go_simp) T6 (fun K hK => ?_); go_simp; refine hK _ _ ?_; clear hK K
      refine anyH_take 18 (.pointer (some ⟨w.heap.size, 14, none⟩)) rfl (by kernel_rfl) (by kernel_rfl) (by kernel_rfl) (fun _ _ _ h => h) (by rfl) (fun w' hS => by go_simp) T6 (fun K hK => ?_); go_simp; refine hK _ _ ?_; clear hK K
      refine anyH_take 12 (.slice (some ⟨gA, 0, none⟩) al.length capA) rfl (by kernel_rfl) (by kernel_rfl) (by kernel_rfl) (fun _ _ _ h => h) (by rfl) (fun w' hS => by have q := (msgR_cells hS.1).2.2.2.1; go_simp) T6 (fun K hK => ?_); go_simp; refine hK _ _ ?_; clear hK K
      refine anyH_take 14 (.slice (some ⟨gA, 0, none⟩) al.length capA) rfl (by kernel_rfl) (by kernel_rfl) (by kernel_rfl) (fun _ _ _ h => h) (by rfl) (fun w' hS => by have q := (msgR_cells hS.1).2.2.2.1; go_simp) T6 (fun K hK => ?_); go_simp; refine hK _ _ ?_; clear hK K
      refine anyH_take 19 (.slice (some ⟨gA, 0, none⟩) al.length capA) rfl (by kernel_rfl) (by kernel_rfl) (by kernel_rfl) (fun _ _ _ h => h) (by rfl) (fun w' hS => by have q := (msgR_cells hS.1).2.2.2.1; go_simp) T6 (fun K hK => ?_); go_simp; refine hK _ _ ?_; clear hK K
      refine anyH_take 15 (.int .i64 (al.length)) rfl (by kernel_rfl) (by kernel_rfl) (by kernel_rfl) (fun _ _ _ h => h) (by rfl) (fun w' hS => by go_simp) T6 (fun K hK => ?_); go_simp; refine hK _ _ ?_; clear hK K
      refine anyH_take 20 (.int .i64 (al.length)) rfl (by kernel_rfl) (by kernel_rfl) (by kernel_rfl) (fun _ _ _ h => h) (by rfl) (fun w' hS => by go_simp) T6 (fun K hK => ?_); go_simp; refine hK _ _ ?_; clear hK K
      refine anyH_one 16 (by kernel_rfl) rfl (by rfl) (fun K hK => ?_); go_simp; refine hK _ _ T6 ?_; clear hK K
      have hcl : al.length + 1 ≤ capA := by omega
      have hw1 : IntKind.i64.wrap ((al.length : Int) + 1) = (al.length : Int) + 1 := by rw [IntKind.wrap_i64]; omega
      have hw2 : (0 : Int) ≤ (al.length : Int) + 1 := by omega
      have hw3 : (al.length : Int) + 1 ≤ (capA : Int) := by omega
      have hw4 : ((al.length : Int) + 1).toNat = al.length + 1 := by omega
      have hw5 : (al.length : Int) < (al.length : Int) + 1 := by omega
      refine anyH_one 17 (by kernel_rfl) rfl (by rfl) (fun K hK => ?_); go_simp; refine hK _ _ T6 ?_; clear hK K
      refine anyH_one 21 (by kernel_rfl) rfl (by rfl) (fun K hK => ?_); go_simp; refine hK _ _ T6 ?_; clear hK K
      refine anyH_one 22 (by kernel_rfl) rfl (by rfl) (fun K hK => ?_); go_simp; refine hK _ _ T6 ?_; clear hK K
      have sm := T6.2.2.2.2.2
      refine anyH_one 23 (by kernel_rfl) rfl (by rfl) (fun K hK => ?_); go_simp; refine hK _ _ T6 ?_; clear hK K
      clear sm hcl hw1 hw2 hw3 hw4 hw5
      refine anyH_one 24 (by kernel_rfl) rfl (by rfl) (fun K hK => ?_); go_simp; refine hK _ _ T6 ?_; clear hK K
      refine anyH_one 25 (by kernel_rfl) rfl (by rfl) (fun K hK => ?_); go_simp; refine hK _ _ T6 ?_; clear hK K
      refine anyH_one 26 (by kernel_rfl) rfl (by rfl) (fun K hK => ?_); go_simp; refine hK _ _ T6 ?_; clear hK K
      refine anyH_take 27 (.pointer (some ⟨w.heap.size, 13, none⟩)) rfl (by kernel_rfl) (by kernel_rfl) (by kernel_rfl) (fun _ _ _ h => h) (by rfl) (fun w' hS => by go_simp) T6 (fun K hK => ?_); go_simp; refine hK _ _ ?_; clear hK K
      refine anyH_take 29 (.pointer (some ⟨w.heap.size, 13, none⟩)) rfl (by kernel_rfl) (by kernel_rfl) (by kernel_rfl) (fun _ _ _ h => h) (by rfl) (fun w' hS => by go_simp) T6 (fun K hK => ?_); go_simp; refine hK _ _ ?_; clear hK K
      refine anyH_take 34 (.pointer (some ⟨w.heap.size, 13, none⟩)) rfl (by kernel_rfl) (by kernel_rfl) (by kernel_rfl) (fun _ _ _ h => h) (by rfl) (fun w' hS => by go_simp) T6 (fun K hK => ?_); go_simp; refine hK _ _ ?_; clear hK K
      refine anyH_take 28 (.slice (some ⟨gM, 0, none⟩) ml.length capM) rfl (by kernel_rfl) (by kernel_rfl) (by kernel_rfl) (fun _ _ _ h => h) (by rfl) (fun w' hS => by have q := (msgR_cells hS.1).2.2.1; go_simp) T6 (fun K hK => ?_); go_simp; refine hK _ _ ?_; clear hK K
      refine anyH_take 30 (.slice (some ⟨gM, 0, none⟩) ml.length capM) rfl (by kernel_rfl) (by kernel_rfl) (by kernel_rfl) (fun _ _ _ h => h) (by rfl) (fun w' hS => by have q := (msgR_cells hS.1).2.2.1; go_simp) T6 (fun K hK => ?_); go_simp; refine hK _ _ ?_; clear hK K
      refine anyH_take 35 (.slice (some ⟨gM, 0, none⟩) ml.length capM) rfl (by kernel_rfl) (by kernel_rfl) (by kernel_rfl) (fun _ _ _ h => h) (by rfl) (fun w' hS => by have q := (msgR_cells hS.1).2.2.1; go_simp) T6 (fun K hK => ?_); go_simp; refine hK _ _ ?_; clear hK K
      refine anyH_take 31 (.int .i64 (ml.length)) rfl (by kernel_rfl) (by kernel_rfl) (by kernel_rfl) (fun _ _ _ h => h) (by rfl) (fun w' hS => by go_simp) T6 (fun K hK => ?_); go_simp; refine hK _ _ ?_; clear hK K
      refine anyH_take 36 (.int .i64 (ml.length)) rfl (by kernel_rfl) (by kernel_rfl) (by kernel_rfl) (fun _ _ _ h => h) (by rfl) (fun w' hS => by go_simp) T6 (fun K hK => ?_); go_simp; refine hK _ _ ?_; clear hK K
      refine anyH_one 32 (by kernel_rfl) rfl (by rfl) (fun K hK => ?_); go_simp; refine hK _ _ T6 ?_; clear hK K
      have hcl : ml.length + 1 ≤ capM := by omega
      have hw1 : IntKind.i64.wrap ((ml.length : Int) + 1) = (ml.length : Int) + 1 := by rw [IntKind.wrap_i64]; omega
      have hw2 : (0 : Int) ≤ (ml.length : Int) + 1 := by omega
      have hw3 : (ml.length : Int) + 1 ≤ (capM : Int) := by omega
      have hw4 : ((ml.length : Int) + 1).toNat = ml.length + 1 := by omega
      have hw5 : (ml.length : Int) < (ml.length : Int) + 1 := by omega
      refine anyH_one 33 (by kernel_rfl) rfl (by rfl) (fun K hK => ?_); go_simp; refine hK _ _ T6 ?_; clear hK K
      refine anyH_one 37 (by kernel_rfl) rfl (by rfl) (fun K hK => ?_); go_simp; refine hK _ _ T6 ?_; clear hK K
      refine anyH_one 38 (by kernel_rfl) rfl (by rfl) (fun K hK => ?_); go_simp; refine hK _ _ T6 ?_; clear hK K
      have sm := T6.2.2.2.2.1
      refine anyH_one 39 (by kernel_rfl) rfl (by rfl) (fun K hK => ?_); go_simp; refine hK _ _ T6 ?_; clear hK K
      clear sm hcl hw1 hw2 hw3 hw4 hw5
      refine anyH_one 40 (by kernel_rfl) rfl (by rfl) (fun K hK => ?_); go_simp; refine hK _ _ T6 ?_; clear hK K
      refine anyH_one 41 (by kernel_rfl) rfl (by rfl) (fun K hK => ?_); go_simp; refine hK _ _ T6 ?_; clear hK K
      refine anyH_one 42 (by kernel_rfl) rfl (by rfl) (fun K hK => ?_); go_simp; refine hK _ _ T6 ?_; clear hK K
      refine anyH_take 43 (.pointer (some ⟨w.heap.size, 11, none⟩)) rfl (by kernel_rfl) (by kernel_rfl) (by kernel_rfl) (fun _ _ _ h => h) (by rfl) (fun w' hS => by go_simp) T6 (fun K hK => ?_); go_simp; refine hK _ _ ?_; clear hK K
      refine anyH_take 45 (.pointer (some ⟨w.heap.size, 11, none⟩)) rfl (by kernel_rfl) (by kernel_rfl) (by kernel_rfl) (fun _ _ _ h => h) (by rfl) (fun w' hS => by go_simp) T6 (fun K hK => ?_); go_simp; refine hK _ _ ?_; clear hK K
      refine anyH_take 50 (.pointer (some ⟨w.heap.size, 11, none⟩)) rfl (by kernel_rfl) (by kernel_rfl) (by kernel_rfl) (fun _ _ _ h => h) (by rfl) (fun w' hS => by go_simp) T6 (fun K hK => ?_); go_simp; refine hK _ _ ?_; clear hK K
      refine anyH_take 44 (.slice (some ⟨gF, 0, none⟩) 0 capF) rfl (by kernel_rfl) (by kernel_rfl) (by kernel_rfl) (fun _ _ _ h => h) (by rfl) (fun w' hS => by have q := (msgR_cells hS.1).1; go_simp) T6 (fun K hK => ?_); go_simp; refine hK _ _ ?_; clear hK K
      refine anyH_take 46 (.slice (some ⟨gF, 0, none⟩) 0 capF) rfl (by kernel_rfl) (by kernel_rfl) (by kernel_rfl) (fun _ _ _ h => h) (by rfl) (fun w' hS => by have q := (msgR_cells hS.1).1; go_simp) T6 (fun K hK => ?_); go_simp; refine hK _ _ ?_; clear hK K
      refine anyH_take 51 (.slice (some ⟨gF, 0, none⟩) 0 capF) rfl (by kernel_rfl) (by kernel_rfl) (by kernel_rfl) (fun _ _ _ h => h) (by rfl) (fun w' hS => by have q := (msgR_cells hS.1).1; go_simp) T6 (fun K hK => ?_); go_simp; refine hK _ _ ?_; clear hK K
      refine anyH_take 47 (.int .i64 (0)) rfl (by kernel_rfl) (by kernel_rfl) (by kernel_rfl) (fun _ _ _ h => h) (by rfl) (fun w' hS => by go_simp) T6 (fun K hK => ?_); go_simp; refine hK _ _ ?_; clear hK K
      refine anyH_take 52 (.int .i64 (0)) rfl (by kernel_rfl) (by kernel_rfl) (by kernel_rfl) (fun _ _ _ h => h) (by rfl) (fun w' hS => by go_simp) T6 (fun K hK => ?_); go_simp; refine hK _ _ ?_; clear hK K
      refine anyH_one 48 (by kernel_rfl) rfl (by rfl) (fun K hK => ?_); go_simp; refine hK _ _ T6 ?_; clear hK K
      have hcl : 0 + 1 ≤ capF := by omega
      have hw1 : IntKind.i64.wrap ((0 : Int) + 1) = (0 : Int) + 1 := by rw [IntKind.wrap_i64]; omega
      have hw2 : (0 : Int) ≤ (0 : Int) + 1 := by omega
      have hw3 : (0 : Int) + 1 ≤ (capF : Int) := by omega
      have hw4 : ((0 : Int) + 1).toNat = 0 + 1 := by omega
      have hw5 : (0 : Int) < (0 : Int) + 1 := by omega
      clear hw1 hw2 hw3 hw4 hw5 hcl
      have hcl : 1 ≤ capF := by omega
      have hw1 : IntKind.i64.wrap (1 : Int) = (1 : Int) := by rw [IntKind.wrap_i64]; omega
      have hw2 : 0 < capF := by omega
      have hw3 : (1 : Int) ≤ (capF : Int) := by omega
      have hw4 : (1 : Int).toNat = 1 := by omega
      have hw5 : (0 : Int) < (1 : Int) := by omega
      refine anyH_one 49 (by kernel_rfl) rfl (by rfl) (fun K hK => ?_); go_simp; refine hK _ _ T6 ?_; clear hK K
      refine anyH_one 53 (by kernel_rfl) rfl (by rfl) (fun K hK => ?_); go_simp; refine hK _ _ T6 ?_; clear hK K
      refine anyH_one 54 (by kernel_rfl) rfl (by rfl) (fun K hK => ?_); go_simp; refine hK _ _ T6 ?_; clear hK K
      have sm := T6.2.2.1
      refine anyH_one 55 (by kernel_rfl) rfl (by rfl) (fun K hK => ?_); go_simp; refine hK _ _ T6 ?_; clear hK K
      clear sm hcl hw1 hw2 hw3 hw4 hw5
      refine anyH_one 56 (by kernel_rfl) rfl (by rfl) (fun K hK => ?_); go_simp; refine hK _ _ T6 ?_; clear hK K
      refine anyH_one 57 (by kernel_rfl) rfl (by rfl) (fun K hK => ?_); go_simp; refine hK _ _ T6 ?_; clear hK K
      refine anyH_one 58 (by kernel_rfl) rfl (by rfl) (fun K hK => ?_); go_simp; refine hK _ _ T6 ?_; clear hK K
      refine anyH_take 59 (.pointer (some ⟨w.heap.size, 27, none⟩)) rfl (by kernel_rfl) (by kernel_rfl) (by kernel_rfl) (fun _ _ _ h => h) (by rfl) (fun w' hS => by go_simp) T6 (fun K hK => ?_); go_simp; refine hK _ _ ?_; clear hK K
      refine anyH_take 61 (.pointer (some ⟨w.heap.size, 27, none⟩)) rfl (by kernel_rfl) (by kernel_rfl) (by kernel_rfl) (fun _ _ _ h => h) (by rfl) (fun w' hS => by go_simp) T6 (fun K hK => ?_); go_simp; refine hK _ _ ?_; clear hK K
      refine anyH_take 66 (.pointer (some ⟨w.heap.size, 27, none⟩)) rfl (by kernel_rfl) (by kernel_rfl) (by kernel_rfl) (fun _ _ _ h => h) (by rfl) (fun w' hS => by go_simp) T6 (fun K hK => ?_); go_simp; refine hK _ _ ?_; clear hK K
      refine anyH_take 60 (.slice (some ⟨gC, 0, none⟩) 0 capC) rfl (by kernel_rfl) (by kernel_rfl) (by kernel_rfl) (fun _ _ _ h => h) (by rfl) (fun w' hS => by have q := (msgR_cells hS.1).2.2.2.2; go_simp) T6 (fun K hK => ?_); go_simp; refine hK _ _ ?_; clear hK K
      refine anyH_take 62 (.slice (some ⟨gC, 0, none⟩) 0 capC) rfl (by kernel_rfl) (by kernel_rfl) (by kernel_rfl) (fun _ _ _ h => h) (by rfl) (fun w' hS => by have q := (msgR_cells hS.1).2.2.2.2; go_simp) T6 (fun K hK => ?_); go_simp; refine hK _ _ ?_; clear hK K
      refine anyH_take 67 (.slice (some ⟨gC, 0, none⟩) 0 capC) rfl (by kernel_rfl) (by kernel_rfl) (by kernel_rfl) (fun _ _ _ h => h) (by rfl) (fun w' hS => by have q := (msgR_cells hS.1).2.2.2.2; go_simp) T6 (fun K hK => ?_); go_simp; refine hK _ _ ?_; clear hK K
      refine anyH_take 63 (.int .i64 (0)) rfl (by kernel_rfl) (by kernel_rfl) (by kernel_rfl) (fun _ _ _ h => h) (by rfl) (fun w' hS => by go_simp) T6 (fun K hK => ?_); go_simp; refine hK _ _ ?_; clear hK K
      refine anyH_take 68 (.int .i64 (0)) rfl (by kernel_rfl) (by kernel_rfl) (by kernel_rfl) (fun _ _ _ h => h) (by rfl) (fun w' hS => by go_simp) T6 (fun K hK => ?_); go_simp; refine hK _ _ ?_; clear hK K
      refine anyH_one 64 (by kernel_rfl) rfl (by rfl) (fun K hK => ?_); go_simp; refine hK _ _ T6 ?_; clear hK K
      have hcl : 0 + 1 ≤ capC := by omega
      have hw1 : IntKind.i64.wrap ((0 : Int) + 1) = (0 : Int) + 1 := by rw [IntKind.wrap_i64]; omega
      have hw2 : (0 : Int) ≤ (0 : Int) + 1 := by omega
      have hw3 : (0 : Int) + 1 ≤ (capC : Int) := by omega
      have hw4 : ((0 : Int) + 1).toNat = 0 + 1 := by omega
      have hw5 : (0 : Int) < (0 : Int) + 1 := by omega
      clear hw1 hw2 hw3 hw4 hw5 hcl
      have hcl : 1 ≤ capC := by omega
      have hw1 : IntKind.i64.wrap (1 : Int) = (1 : Int) := by rw [IntKind.wrap_i64]; omega
      have hw2 : 0 < capC := by omega
      have hw3 : (1 : Int) ≤ (capC : Int) := by omega
      have hw4 : (1 : Int).toNat = 1 := by omega
      have hw5 : (0 : Int) < (1 : Int) := by omega
      refine anyH_one 65 (by kernel_rfl) rfl (by rfl) (fun K hK => ?_); go_simp; refine hK _ _ T6 ?_; clear hK K
      refine anyH_one 69 (by kernel_rfl) rfl (by rfl) (fun K hK => ?_); go_simp; refine hK _ _ T6 ?_; clear hK K
      refine anyH_one 70 (by kernel_rfl) rfl (by rfl) (fun K hK => ?_); go_simp; refine hK _ _ T6 ?_; clear hK K
      have sm := T6.2.2.2.1
      refine anyH_one 71 (by kernel_rfl) rfl (by rfl) (fun K hK => ?_); go_simp; refine hK _ _ T6 ?_; clear hK K
      clear sm hcl hw1 hw2 hw3 hw4 hw5
      refine anyH_one 72 (by kernel_rfl) rfl (by rfl) (fun K hK => ?_); go_simp; refine hK _ _ T6 ?_; clear hK K
      refine anyH_one 73 (by kernel_rfl) rfl (by rfl) (fun K hK => ?_); go_simp; refine hK _ _ T6 ?_; clear hK K
      refine anyH_one 74 (by kernel_rfl) rfl (by rfl) (fun K hK => ?_); go_simp; refine hK _ _ T6 ?_; clear hK K
      refine wpAnyH_done (by kernel_rfl) ?_ _
      simp only [Exit.then]
      refine ‹∀ (a : Act) (w : World), Code.wp _ _ _ a w → _› _ _ ?_
      go_wp2_with fail
      go_ret
      exact ⟨rfl, b6⟩
end Go.Proofs.YtehpdodjncabkaaDoor
namespace Go.Proofs.YtehpdodjncabkaaDoor
open Go.RowKit Go.Lib

theorem wpList_loadRowG {P : Program} {w : World} {ops : Array Oper} {rest : List Oper} {o : Oper} {a : Act} {Q : Exit → Act → World → Prop} (hwd : Region.wanted o (yielded ops a.tmps) = true) (t : TypeId) (x : Operand) (ho : o.op = .load t x)
    (g : Nat) (ty : TypeId) (cs : Array Value) (fr : Nat × Nat) (hx : a.eval x = .pointer (some ⟨g, 0, none⟩)) (hg : w.heap[g]? = some (.cells cs ty fr)) (d : TypeDesc) (hu : P.underlying t = some d)
    (hd : (match d with | .struct _ | .array _ _ => true | _ => false) = true) (hi : (P.info? t).map (·.size) = some cs.size)
    (h : wpList P ops Q rest (a.put o.dst (.agg cs)) w) : wpList P ops Q (o :: rest) a w := by
  refine wpList_step fun K hK => ?_
  rw [if_pos hwd]
  have hr := run_loadVar_row (P := P) w g ty t cs fr d hg hu hd hi
  unfold Oper.wp execOp
  simp only [ho, hx, Instr.loadAt, Instr.sureAddr, Sem.run_bind, Sem.run_pure, Result.andThen_ok, hr]
  exact hK _ _ h
/-- The law's record in its block. -/
structure LpS (c : Chg) (vA vM : Value) (w wr : World) : Prop where
  hb : Below w.heap.size w wr
  hr : wr.heap[w.heap.size]? = some (.cells (chgA c vA vM) 25 (0, 0))
theorem LpS.below {c : Chg} {vA vM : Value} {w wr w' : World} (h : LpS c vA vM w wr) (hb : Below wr.heap.size wr w') : LpS c vA vM w w' :=
  ⟨below_ext h.hb hb, (hb.block _ (Array.getElem?_eq_some_iff.1 h.hr).1).trans h.hr⟩
theorem chgA_lists {g : Nat} {c : Chg} {vA vM : Value} {w : World} (h : w.heap[g]? = some (.cells (chgA c vA vM) 25 (0, 0))) : w.cell? ⟨g, 4, none⟩ = some vA ∧ w.cell? ⟨g, 5, none⟩ = some vM := by
  refine ⟨?_, ?_⟩ <;> (rw [Lib.cell_of_heap h]; rfl)
/-- A new block of one struct, written whole. -/
theorem new_row {w : World} {z cs : Array Value} {t : TypeId} : Below w.heap.size w ((w.alloc (.cells z t)).setRow w.heap.size cs) ∧ ((w.alloc (.cells z t)).setRow w.heap.size cs).heap[w.heap.size]? = some (.cells cs t (0, 0)) :=
  ⟨below_row ((Below.refl _ _).alloc (Nat.le_refl _) _) (Nat.le_refl _) cs, setRow_heap _ _ _ _ _ _ (alloc_at _ _ _ rfl)⟩
set_option maxRecDepth 100000 in
set_option maxHeartbeats 8000000 in
theorem LdifPrints_any (c : Chg) (vA vM : Value) (w : World) (hA : AttrsAt w vA c.attrs) (hM : ModsAt w vM c.mods) (hSm : Small c) (hE : Env w) :
    Calls Tryd.prog 3 #[.agg (chgA c vA vM)] w fun e w' => e = .returned (.bool true) ∧ Below w.heap.size w w' := by
  have HA := Lib.hid hA
  have HM := Lib.hid hM
  have HS := Lib.hid hSm
  obtain ⟨aV, cV, hfV⟩ := hA.shape
  obtain ⟨aN, cN, hfN⟩ := hM.shape
  subst hfV hfN
  clear hA hM hSm
  have H1 : LpS c (.slice aV c.attrs.length cV) (.slice aN c.mods.length cN) w (w.alloc (.cells #[.string ⟨c.time.toArray⟩, .string ⟨c.who.toArray⟩, .string ⟨c.dn.toArray⟩, .int .i64 c.kind, .slice aV c.attrs.length cV, .slice aN c.mods.length cN, .string ⟨c.newRdn.toArray⟩, .string ⟨c.newSup.toArray⟩, .bool c.delOld, .bool c.hasSup] 25)) := ⟨(Below.refl _ _).alloc (Nat.le_refl _) _, alloc_at _ _ _ rfl⟩
  unfold chgA
  go_enter Tryd.func3, Tryd.ntmps3
  refine wp_seq ?_
  refine wp_region_list ?_
  refine wpList_plain rfl fun K hK => ?_
  go_simp
  refine hK _ _ ?_; clear hK K
  generalize (w.alloc (.cells #[.string ⟨c.time.toArray⟩, .string ⟨c.who.toArray⟩, .string ⟨c.dn.toArray⟩, .int .i64 c.kind, .slice aV c.attrs.length cV, .slice aN c.mods.length cN, .string ⟨c.newRdn.toArray⟩, .string ⟨c.newSup.toArray⟩, .bool c.delOld, .bool c.hasSup] 25)) = w1 at H1 ⊢
  have k1 := light_any c (.slice aV c.attrs.length cV) (.slice aN c.mods.length cN) w1 (HA.out.below H1.hb) (HM.out.below H1.hb)
  go_wp2_with (refine wpList_loadRow rfl 25 (.tmp 1) rfl w.heap.size 25 _ (0, 0) (by rfl) H1.hr _ Tryd.underlying25 rfl (by rfl) ?_)
  refine Calls.mono (show Calls _ _ _ _ _ from k1) ?_
  rintro e w2 ⟨rfl, hb2⟩
  have H2 := H1.below hb2
  clear H1 k1 hb2
  cases hlc : lightC c with
  | false =>
    have k2 := alive_any w2 (hE.below H2.hb)
    go_wp2_with fail
    refine Calls.mono (show Calls _ _ _ _ _ from k2) ?_
    rintro e w4 ⟨rfl, hb4⟩
    go_wp2_with fail
    go_ret
    exact ⟨rfl, below_ext H2.hb hb4⟩
  | true =>
    clear hlc
    have hsm2 : ∀ x ∈ c.attrs, x.2.length ≤ 1000000000 := fun x hx => (HS.out.2.2.2.1 x hx).2.1
    have hsm3 : ∀ x ∈ c.mods, x.2.2.length ≤ 1000000000 := fun x hx => (HS.out.2.2.2.2.1 x hx).2.1
    have HS2 := Lib.hid hsm2
    have HS3 := Lib.hid hsm3
    clear hsm2 hsm3
    obtain ⟨c4, c5⟩ := chgA_lists H2.hr
    have hkw := H2.hb.size
    have hkx := (Array.getElem?_eq_some_iff.1 H2.hr).1
    go_wp2_with (first
      | (refine wpList_loadRow rfl 25 (.tmp 1) rfl w.heap.size 25 _ (0, 0) (by rfl) H2.hr _ Tryd.underlying25 rfl (by rfl) ?_)
      | (refine wpList_storeRow rfl 25 (.tmp 3) (.tmp 13) rfl w2.heap.size 25 _ (chgA c (.slice aV c.attrs.length cV) (.slice aN c.mods.length cN)) (by rfl) (by rfl) (alloc_at _ _ _ rfl) (by rfl) (by rfl) (by simp [chgA, Value.oneCell']) ?_; obtain ⟨n1, n2⟩ := new_row (w := w2) (z := #[.string ⟨#[]⟩, .string ⟨#[]⟩, .string ⟨#[]⟩, .int .i64 0, .slice none 0 0, .slice none 0 0, .string ⟨#[]⟩, .string ⟨#[]⟩, .bool false, .bool false]) (cs := chgA c (.slice aV c.attrs.length cV) (.slice aN c.mods.length cN)) (t := 25); have H3 := H2.below n1; generalize (w2.alloc (.cells #[.string ⟨#[]⟩, .string ⟨#[]⟩, .string ⟨#[]⟩, .int .i64 0, .slice none 0 0, .slice none 0 0, .string ⟨#[]⟩, .string ⟨#[]⟩, .bool false, .bool false] 25)).setRow w2.heap.size (chgA c (.slice aV c.attrs.length cV) (.slice aN c.mods.length cN)) = w3 at n1 n2 H3 ⊢; clear c4 c5 H2; obtain ⟨c4, c5⟩ := chgA_lists H3.hr))
    have kL := Lent_any (.slice aV c.attrs.length cV) (.slice aN c.mods.length cN) c.attrs c.mods w3 (HA.out.below H3.hb) (HM.out.below H3.hb) HS.out.2.1 HS2.out HS.out.2.2.1 HS3.out
    refine Calls.mono (show Calls _ _ _ _ _ from kL) ?_
    rintro e w4 ⟨⟨uF, uS, uM, uA, uC, rfl, hF, hS, hM, hA, hC⟩, hb4⟩
    have H4 := H3.below hb4
    have hx4 := (hb4.block _ (Array.getElem?_eq_some_iff.1 n2).1).trans n2
    have hlt := (Array.getElem?_eq_some_iff.1 hx4).1
    clear kL H3 n1 n2 c4 c5 hb4
    obtain ⟨gF, capF, hfF, _, j1⟩ := hF.form
    obtain ⟨gC, capC, hfC, _, j2⟩ := hC.form
    obtain ⟨gM, capM, hfM, _, j3⟩ := hM.form
    obtain ⟨gA, capA, us, hfA, _, j4, _, j5⟩ := hA.form
    obtain ⟨gS, capS, hfS, _, j6, j7⟩ := hS.form
    simp only [List.length_nil] at hfS
    clear j1 j2 j3 j4 j5 j6 j7
    subst hfF hfC hfM hfA hfS
    have QF := Lib.hid hF
    have QC := Lib.hid hC
    have QM := Lib.hid hM
    have QA := Lib.hid hA
    have QS := Lib.hid hS
    clear hF hC hM hA hS
    go_wp2_with (first
      | (refine wpList_storeRow rfl 32 (.tmp 4) (.tmp 19) rfl w4.heap.size 32 _ (msgR (.slice (some ⟨gF, 0, none⟩) 0 capF) (.slice (some ⟨gS, 0, none⟩) 0 capS) (.slice (some ⟨gM, 0, none⟩) c.mods.length capM) (.slice (some ⟨gA, 0, none⟩) c.attrs.length capA) (.slice (some ⟨gC, 0, none⟩) 0 capC)) (by rfl) (by rfl) (alloc_at _ _ _ rfl) (by rfl) (by rfl) (by simp [msgR, Value.oneCell']) ?_; obtain ⟨n1, n2⟩ := new_row (w := w4) (z := #[.int .i64 0, .int .i64 0, .string ⟨#[]⟩, .int .i64 0, .bool false, .string ⟨#[]⟩, .int .i64 0, .int .i64 0, .int .i64 0, .int .i64 0, .bool false, .slice none 0 0, .slice none 0 0, .slice none 0 0, .slice none 0 0, .string ⟨#[]⟩, .string ⟨#[]⟩, .bool false, .bool false, .string ⟨#[]⟩, .string ⟨#[]⟩, .string ⟨#[]⟩, .bool false, .int .i64 0, .int .i64 0, .string ⟨#[]⟩, .string ⟨#[]⟩, .slice none 0 0]) (cs := msgR (.slice (some ⟨gF, 0, none⟩) 0 capF) (.slice (some ⟨gS, 0, none⟩) 0 capS) (.slice (some ⟨gM, 0, none⟩) c.mods.length capM) (.slice (some ⟨gA, 0, none⟩) c.attrs.length capA) (.slice (some ⟨gC, 0, none⟩) 0 capC)) (t := 32); have H5 := H4.below n1; have hx5 := (n1.block _ hlt).trans hx4; have K5 : Kp 25 w4 _ := Kp.below n1; have QF5 := Lib.hid (QF.out.kp K5 (by decide)); have QC5 := Lib.hid (QC.out.kp K5 (by decide)); have QM5 := Lib.hid (QM.out.kp K5 (by decide) (by decide)); have QA5 := Lib.hid (QA.out.kp K5 (by decide) (by decide)); have QS5 := Lib.hid (QS.out.kp K5 (by decide)); generalize (w4.alloc (.cells #[.int .i64 0, .int .i64 0, .string ⟨#[]⟩, .int .i64 0, .bool false, .string ⟨#[]⟩, .int .i64 0, .int .i64 0, .int .i64 0, .int .i64 0, .bool false, .slice none 0 0, .slice none 0 0, .slice none 0 0, .slice none 0 0, .string ⟨#[]⟩, .string ⟨#[]⟩, .bool false, .bool false, .string ⟨#[]⟩, .string ⟨#[]⟩, .string ⟨#[]⟩, .bool false, .int .i64 0, .int .i64 0, .string ⟨#[]⟩, .string ⟨#[]⟩, .slice none 0 0] 32)).setRow w4.heap.size (msgR (.slice (some ⟨gF, 0, none⟩) 0 capF) (.slice (some ⟨gS, 0, none⟩) 0 capS) (.slice (some ⟨gM, 0, none⟩) c.mods.length capM) (.slice (some ⟨gA, 0, none⟩) c.attrs.length capA) (.slice (some ⟨gC, 0, none⟩) 0 capC)) = w5 at n1 n2 H5 hx5 K5 QF5 QC5 QM5 QA5 QS5 ⊢; clear H4 hx4 n1 K5 QF QC QM QA QS))
    have hne : w2.heap.size < w4.heap.size := hlt
    refine wp_region_held (S := (fun w' => w'.heap[w4.heap.size]? = some (.cells (msgR (.slice (some ⟨gF, 0, none⟩) 0 capF) (.slice (some ⟨gS, 0, none⟩) 0 capS) (.slice (some ⟨gM, 0, none⟩) c.mods.length capM) (.slice (some ⟨gA, 0, none⟩) c.attrs.length capA) (.slice (some ⟨gC, 0, none⟩) 0 capC)) 32 (0, 0)))) (by kernel_rfl) ?_
    have H6 : LpS c (.slice aV c.attrs.length cV) (.slice aN c.mods.length cN) w w5.drew := ⟨H5.hb.drew, H5.hr⟩
    have hx6 : w5.drew.heap[w2.heap.size]? = some (.cells (chgA c (.slice aV c.attrs.length cV) (.slice aN c.mods.length cN)) 25 (0, 0)) := hx5
    have hm6 : w5.drew.heap[w4.heap.size]? = some (.cells (msgR (.slice (some ⟨gF, 0, none⟩) 0 capF) (.slice (some ⟨gS, 0, none⟩) 0 capS) (.slice (some ⟨gM, 0, none⟩) c.mods.length capM) (.slice (some ⟨gA, 0, none⟩) c.attrs.length capA) (.slice (some ⟨gC, 0, none⟩) 0 capC)) 32 (0, 0)) := n2
    have QF6 := Lib.hid (show LentF _ w5.drew _ from QF5.out)
    have QC6 := Lib.hid (show LentC _ w5.drew _ from QC5.out)
    have QM6 := Lib.hid (show LentM _ w5.drew _ _ from QM5.out)
    have QA6 := Lib.hid (show LentA _ w5.drew _ _ from QA5.out)
    have QS6 := Lib.hid (show LentS _ w5.drew _ _ from QS5.out)
    change wpAnyH _ _ _ _ _ _ _ _ w5.drew
    clear H5 hx5 n2 QF5 QC5 QM5 QA5 QS5 hlt
    generalize w5.drew = w6 at H6 hx6 hm6 QF6 QC6 QM6 QA6 QS6 ⊢
    refine anyH_take 0 (.pointer (some ⟨w4.heap.size, 14, none⟩)) rfl (by kernel_rfl) (by kernel_rfl) (by kernel_rfl) (fun _ _ _ h => h) (by rfl) (fun w' hS => by go_simp) hm6 (fun K hK => ?_); go_simp; refine hK _ _ ?_; clear hK K
    refine anyH_take 2 (.pointer (some ⟨w4.heap.size, 13, none⟩)) rfl (by kernel_rfl) (by kernel_rfl) (by kernel_rfl) (fun _ _ _ h => h) (by rfl) (fun w' hS => by go_simp) hm6 (fun K hK => ?_); go_simp; refine hK _ _ ?_; clear hK K
    refine anyH_take 1 (.slice (some ⟨gA, 0, none⟩) c.attrs.length capA) rfl (by kernel_rfl) (by kernel_rfl) (by kernel_rfl) (fun _ _ _ h => h) (by rfl) (fun w' hS => by have q := (msgR_cells hS).2.2.2.1; go_simp) hm6 (fun K hK => ?_); go_simp; refine hK _ _ ?_; clear hK K
    refine anyH_take 4 (.pointer (some ⟨w2.heap.size, 4, none⟩)) rfl (by kernel_rfl) (by kernel_rfl) (by kernel_rfl) (fun _ _ _ h => h) (by rfl) (fun w' hS => by go_simp) hm6 (fun K hK => ?_); go_simp; refine hK _ _ ?_; clear hK K
    have z4 := Lib.frozen_of_heap hx6 4
    have s4 := (chgA_lists hx6).1
    have hx7 : (w6.setCell ⟨w2.heap.size, 4, none⟩ (.slice (some ⟨gA, 0, none⟩) c.attrs.length capA)).heap[w2.heap.size]? = some (.cells (chgA c (.slice (some ⟨gA, 0, none⟩) c.attrs.length capA) (.slice aN c.mods.length cN)) 25 (0, 0)) := setCell_at (i := 4) (u := .slice (some ⟨gA, 0, none⟩) c.attrs.length capA) hx6
    have hm7 : (w6.setCell ⟨w2.heap.size, 4, none⟩ (.slice (some ⟨gA, 0, none⟩) c.attrs.length capA)).heap[w4.heap.size]? = some (.cells (msgR (.slice (some ⟨gF, 0, none⟩) 0 capF) (.slice (some ⟨gS, 0, none⟩) 0 capS) (.slice (some ⟨gM, 0, none⟩) c.mods.length capM) (.slice (some ⟨gA, 0, none⟩) c.attrs.length capA) (.slice (some ⟨gC, 0, none⟩) 0 capC)) 32 (0, 0)) := (Below.heap_setCell w6 ⟨w2.heap.size, 4, none⟩ (.slice (some ⟨gA, 0, none⟩) c.attrs.length capA) w4.heap.size (by show w4.heap.size ≠ w2.heap.size; omega)).trans hm6
    have z5 := Lib.frozen_of_heap hx7 5
    have s5 := (chgA_lists hx7).2
    have hx8 : ((w6.setCell ⟨w2.heap.size, 4, none⟩ (.slice (some ⟨gA, 0, none⟩) c.attrs.length capA)).setCell ⟨w2.heap.size, 5, none⟩ (.slice (some ⟨gM, 0, none⟩) c.mods.length capM)).heap[w2.heap.size]? = some (.cells (chgA c (.slice (some ⟨gA, 0, none⟩) c.attrs.length capA) (.slice (some ⟨gM, 0, none⟩) c.mods.length capM)) 25 (0, 0)) := setCell_at (i := 5) (u := .slice (some ⟨gM, 0, none⟩) c.mods.length capM) hx7
    have hm8 : ((w6.setCell ⟨w2.heap.size, 4, none⟩ (.slice (some ⟨gA, 0, none⟩) c.attrs.length capA)).setCell ⟨w2.heap.size, 5, none⟩ (.slice (some ⟨gM, 0, none⟩) c.mods.length capM)).heap[w4.heap.size]? = some (.cells (msgR (.slice (some ⟨gF, 0, none⟩) 0 capF) (.slice (some ⟨gS, 0, none⟩) 0 capS) (.slice (some ⟨gM, 0, none⟩) c.mods.length capM) (.slice (some ⟨gA, 0, none⟩) c.attrs.length capA) (.slice (some ⟨gC, 0, none⟩) 0 capC)) 32 (0, 0)) := (Below.heap_setCell _ ⟨w2.heap.size, 5, none⟩ (.slice (some ⟨gM, 0, none⟩) c.mods.length capM) w4.heap.size (by show w4.heap.size ≠ w2.heap.size; omega)).trans hm7
    have K8 : Kp 25 w6 ((w6.setCell ⟨w2.heap.size, 4, none⟩ (.slice (some ⟨gA, 0, none⟩) c.attrs.length capA)).setCell ⟨w2.heap.size, 5, none⟩ (.slice (some ⟨gM, 0, none⟩) c.mods.length capM)) := Kp.trans (Kp.set hx6) (Kp.set hx7)
    have hgx : w.heap.size < w2.heap.size := hkx
    have H8 : LpS c (.slice aV c.attrs.length cV) (.slice aN c.mods.length cN) w ((w6.setCell ⟨w2.heap.size, 4, none⟩ (.slice (some ⟨gA, 0, none⟩) c.attrs.length capA)).setCell ⟨w2.heap.size, 5, none⟩ (.slice (some ⟨gM, 0, none⟩) c.mods.length capM)) :=
      ⟨(H6.hb.setCell (p := ⟨w2.heap.size, 4, none⟩) hkw _).setCell (p := ⟨w2.heap.size, 5, none⟩) hkw _, (Below.heap_setCell _ ⟨w2.heap.size, 5, none⟩ (.slice (some ⟨gM, 0, none⟩) c.mods.length capM) w.heap.size (by show w.heap.size ≠ w2.heap.size; omega)).trans ((Below.heap_setCell _ ⟨w2.heap.size, 4, none⟩ (.slice (some ⟨gA, 0, none⟩) c.attrs.length capA) w.heap.size (by show w.heap.size ≠ w2.heap.size; omega)).trans H6.hr)⟩
    have RF := Lib.hid (QF6.out.kp K8 (by decide))
    have RC := Lib.hid (QC6.out.kp K8 (by decide))
    have RN := Lib.hid (QM6.out.kp K8 (by decide) (by decide))
    have RA := Lib.hid (QA6.out.kp K8 (by decide) (by decide))
    have RS := Lib.hid (QS6.out.kp K8 (by decide))
    refine anyH_two 3 5 (by kernel_rfl) rfl (by rfl) rfl (by rfl) (fun K hK => ?_) (fun K hK => ?_)
    have q := (msgR_cells hm6).2.2.1
    go_simp; refine hK _ _ hm6 ?_; clear hK K q
    refine anyH_one 5 (by kernel_rfl) rfl (by rfl) (fun K hK => ?_); go_simp; refine hK _ _ hm7 ?_; clear hK K
    refine anyH_one 6 (by kernel_rfl) rfl (by rfl) (fun K hK => ?_); go_simp; refine hK _ _ hm7 ?_; clear hK K
    refine anyH_one 7 (by kernel_rfl) rfl (by rfl) (fun K hK => ?_); go_simp; refine hK _ _ hm8 ?_; clear hK K
    refine wpAnyH_done (by kernel_rfl) ?_ _
    rotate_left
    go_simp; refine hK _ _ hm7 ?_; clear hK K
    have q := (msgR_cells hm7).2.2.1
    refine anyH_one 3 (by kernel_rfl) rfl (by rfl) (fun K hK => ?_); go_simp; refine hK _ _ hm7 ?_; clear hK K q
    refine anyH_one 6 (by kernel_rfl) rfl (by rfl) (fun K hK => ?_); go_simp; refine hK _ _ hm7 ?_; clear hK K
    refine anyH_one 7 (by kernel_rfl) rfl (by rfl) (fun K hK => ?_); go_simp; refine hK _ _ hm8 ?_; clear hK K
    refine wpAnyH_done (by kernel_rfl) ?_ _
    all_goals
      simp only [Exit.then]
      refine ‹∀ (a : Act) (w : World), Code.wp _ _ _ a w → _› _ _ ?_
      clear z4 s4 hx7 hm7 z5 s5 K8 H6 hx6 hm6 QF6 QC6 QM6 QA6 QS6
      generalize (w6.setCell ⟨w2.heap.size, 4, none⟩ (.slice (some ⟨gA, 0, none⟩) c.attrs.length capA)).setCell ⟨w2.heap.size, 5, none⟩ (.slice (some ⟨gM, 0, none⟩) c.mods.length capM) = w8 at hx8 hm8 H8 RF RC RN RA RS ⊢
      obtain ⟨s, n, hsn⟩ : ∃ s n, printC c = (s, n) := ⟨_, _, rfl⟩
      have k3 := Print_any c (.slice (some ⟨gA, 0, none⟩) c.attrs.length capA) (.slice (some ⟨gM, 0, none⟩) c.mods.length capM) w8 RA.out.attrs RN.out.mods (hE.below H8.hb) HS.out
      rw [hsn] at k3
      simp only at k3
      have HSN := Lib.hid hsn
      clear hsn
      go_wp2_with (refine wpList_loadRow rfl 25 (.tmp 3) rfl w2.heap.size 25 _ (0, 0) (by rfl) hx8 _ Tryd.underlying25 rfl (by rfl) ?_)
      refine Calls.mono (show Calls _ _ _ _ _ from k3) ?_
      rintro e w9 ⟨rfl, hb9⟩
      have H9 := H8.below hb9
      have k4 := RPrint_any c (.slice aV c.attrs.length cV) (.slice aN c.mods.length cN) w9 (HA.out.below H9.hb) (HM.out.below H9.hb) HS.out
      rw [HSN.out] at k4
      simp only at k4
      clear k3
      go_wp2_with (refine wpList_loadRow rfl 25 (.tmp 1) rfl w.heap.size 25 _ (0, 0) (by rfl) H9.hr _ Tryd.underlying25 rfl (by rfl) ?_)
      refine Calls.mono (show Calls _ _ _ _ _ from k4) ?_
      rintro e w10 ⟨rfl, hb10⟩
      have H10 := H9.below hb10
      have k5 := alive_any w10 (hE.below H10.hb)
      clear k4 H9
      go_wp2_with fail
      refine Calls.mono (show Calls _ _ _ _ _ from k5) ?_
      rintro e w11 ⟨rfl, hb11⟩
      have H11 := H10.below hb11
      have hb := below_ext (below_ext hb9 hb10) hb11
      have hm11 := (hb.block _ (Array.getElem?_eq_some_iff.1 hm8).1).trans hm8
      have K11 : Kp 25 w8 w11 := Kp.below hb
      have k6 := Stays_any _ _ _ _ _ _ (.slice aN c.mods.length cN) (.slice aV c.attrs.length cV) c.attrs c.mods w11 (RF.out.kp K11 (by decide)) (RS.out.kp K11 (by decide)) (RN.out.kp K11 (by decide) (by decide)) (RA.out.kp K11 (by decide) (by decide)) (RC.out.kp K11 (by decide)) (HA.out.below H11.hb) (HM.out.below H11.hb) HS.out.2.1 HS2.out HS.out.2.2.1 HS3.out
      obtain ⟨c4, c5⟩ := chgA_lists H11.hr
      clear k5 H10 hb K11 hb9 hb10 hb11 hm8 hx8 H8 RF RC RN RA RS
      go_wp2_with (refine wpList_loadRowG (by rfl) 32 (.tmp 4) rfl w4.heap.size 32 _ (0, 0) (by rfl) hm11 _ Tryd.underlying32 rfl (by rfl) ?_)
      refine Calls.mono (show Calls _ _ _ _ _ from k6) ?_
      rintro e w12 ⟨rfl, hb12⟩
      go_wp2_with fail
      go_ret
      exact ⟨rfl, below_ext H11.hb hb12⟩
end Go.Proofs.YtehpdodjncabkaaDoor
