/- message.op's closure of a delete; message.Write at a delete. -/
import Derived.Test.YtaojidcneocelaaGreatDoorMsT
namespace Go.Proofs.YtaojidcneocelaaGreatDoor
open Go.RowKit Go.Lib

set_option maxRecDepth 100000 in
theorem delop_any (b : Nat) (A : Array Value) (dn : List UInt8) (w : World) (hb : w.heap[b]? = some (.cells A 32 (0, 0))) (h2 : A[2]? = some (.string ⟨dn.toArray⟩)) :
    Calls Tryz.prog 105 #[.pointer (some ⟨b, 0, none⟩)] w fun e w' => e = .returned (.agg (elA (.mk 0 4 false dn []) (.slice none 0 0))) ∧ Below w.heap.size w w' := by
  have b1 : Below w.heap.size w (w.alloc (.cells #[.int .i64 0, .int .i64 0, .bool false, .string ⟨#[]⟩, .slice none 0 0] 76)) := (Below.refl _ _).alloc (Nat.le_refl _) _
  have t1 : (w.alloc (.cells #[.int .i64 0, .int .i64 0, .bool false, .string ⟨#[]⟩, .slice none 0 0] 76)).heap[w.heap.size]? = some (.cells #[.int .i64 0, .int .i64 0, .bool false, .string ⟨#[]⟩, .slice none 0 0] 76 (0, 0)) := alloc_at _ _ _ rfl
  have m1 := (b1.block _ (Array.getElem?_eq_some_iff.1 hb).1).trans hb
  have q2 := (Lib.cell_of_heap m1 2).trans h2
  have ks := mstr_any dn (w.alloc (.cells #[.int .i64 0, .int .i64 0, .bool false, .string ⟨#[]⟩, .slice none 0 0] 76))
  clear hb h2 m1
  go_enter Tryz.func105, Tryz.ntmps105
  go_wp2_with fail
  generalize w.alloc (.cells #[.int .i64 0, .int .i64 0, .bool false, .string ⟨#[]⟩, .slice none 0 0] 76) = w1 at b1 t1 q2 ks ⊢
  refine Calls.mono (show Calls _ _ _ _ _ from ks) ?_
  rintro e w2 ⟨rfl, hb2⟩
  have t2 := (hb2.block _ (Array.getElem?_eq_some_iff.1 t1).1).trans t1
  have b2 := b1.trans (hb2.mono b1.size)
  clear ks q2 t1 b1 hb2
  obtain ⟨E, hE⟩ : ∃ E, elA (.mk 0 4 false dn []) (.slice none 0 0) = E := ⟨_, rfl⟩
  have hE1 : E.all (·.oneCell') = true := by rw [← hE]; simp [elA, Value.oneCell']
  have hE2 : E.size = 5 := by rw [← hE]; rfl
  rw [hE]
  have b3 := below_row b2 (g := w.heap.size) (Nat.le_refl _) E
  have t3 := setRow_heap w2 w.heap.size _ E _ _ t2
  have HE := Lib.hid hE
  have HE1 := Lib.hid hE1
  have HE2 := Lib.hid hE2
  clear hE hE1 hE2
  go_wp2_with (refine wpList_storeRow rfl 76 (.tmp 1) (.tmp 4) rfl w.heap.size 76 _ E (by rfl) (by rfl) t2 (by rw [HE2.out]; rfl) (by rw [HE2.out]; rfl) HE1.out ?_)
  refine bodyPost_ret (v := .agg E) ?_ rfl ⟨by rw [HE.out], b3⟩
  have hr := run_loadVar_row (P := Tryz.prog) (w2.setRow w.heap.size E) w.heap.size 76 76 E (0, 0) _ t3 (show Tryz.prog.underlying 76 = _ from Tryz.underlying76) (by rfl) (by rw [HE2.out]; rfl)
  simp [results, Tryz.f105]
  exact hr
theorem callee5 (args : Array Value) (w : World) : (callFunc 105 args).run Tryz.prog w = .ok (.enter 105 args) w := by go_simp
theorem op_delete (n : Int) (dn : List UInt8) (hd : dn.length ≤ 1000000000) (w : World) :
    Calls Tryz.prog 69 #[.agg (Mg.row { id := n, op := 10, dn := dn })] w fun e w' => (∃ u, e = .returned (.agg (elA (.mk 1 10 false dn []) u)) ∧ KidsAt (fun g => w.heap.size ≤ g) w' u []) ∧ Below w.heap.size w w' := by
  refine op_known ⟨w.heap.size, dn, [], [], .slice none 0 0, .slice none 0 0, [], []⟩ _ w 37 10 (by decide) (.mk 0 4 false dn []) (by simp [SmE, SmL]; exact hd) rfl rfl rfl rfl rfl rfl rfl (by simp) (by simp) (fun w' _ => mods_seq w') (fun w' _ => attrs_seq w') ?_
  intro V w' hV hb hM
  have hV : V = .func (.func 105) #[] #[.pointer (some ⟨w.heap.size, 0, none⟩)] := hV
  subst hV
  refine ⟨_, _, rfl, callee5, ?_⟩
  refine (delop_any w.heap.size _ dn w' hM rfl).mono ?_
  rintro e w'' ⟨rfl, hb'⟩
  exact ⟨⟨_, rfl, KidsAt.nil _ _⟩, hb'⟩
theorem Write_delete1 (w : World) : Calls Tryz.prog 25 #[.agg (Mg.row { id := 1, op := 10, dn := [100, 99, 61, 122] })] w fun e w' => e = .returned (.tuple #[.string ⟨#[48, 9, 2, 1, 1, 74, 4, 100, 99, 61, 122]⟩, .int .i64 0]) ∧ Below w.heap.size w w' := by
  have h1 : (writeE (delE 1 [100, 99, 61, 122])).1 = [48, 9, 2, 1, 1, 74, 4, 100, 99, 61, 122] := by decide
  have h2 : (writeE (delE 1 [100, 99, 61, 122])).2 = 0 := by decide
  have k := Write_of 127 length_short (Mg.row { id := 1, op := 10, dn := [100, 99, 61, 122] }) rfl (delE 1 [100, 99, 61, 122]) (by simp [delE, SmE, SmL]) (by decide) w (fun w' _ => valid_delete 1 [100, 99, 61, 122] (by omega) (by omega) w')
    (fun w' _ => element_nil _ w' 1 [1] (.mk 1 10 false [100, 99, 61, 122] []) rfl rfl rfl (by simp [SmE, SmL]) (by simp) (fun w'' => Int_small 2 1 (by omega) w'') (fun w'' _ => op_delete 1 [100, 99, 61, 122] (by simp) w''))
  rw [h1, h2] at k
  exact k
end Go.Proofs.YtaojidcneocelaaGreatDoor
