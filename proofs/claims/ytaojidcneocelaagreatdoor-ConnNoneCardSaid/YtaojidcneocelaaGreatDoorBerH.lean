/- ber.head, read, Read at short lengths. -/
import Derived.Test.YtaojidcneocelaaGreatDoorBerG
namespace Go.Proofs.YtaojidcneocelaaGreatDoor
open Go.RowKit Go.Lib

theorem and31 (b : UInt8) : bits BinOp.and IntKind.u8 (b.toNat : Int) 31 = ((b.toNat % 32 : Nat) : Int) := by
  have : ∀ i : Fin 256, bits BinOp.and IntKind.u8 ((UInt8.ofNat i.val).toNat : Int) 31 = (((UInt8.ofNat i.val).toNat % 32 : Nat) : Int) := by decide +kernel
  have h := this ⟨b.toNat, UInt8.toNat_lt b⟩
  simpa using h
theorem and32 (b : UInt8) : bits BinOp.and IntKind.u8 (b.toNat : Int) 32 = ((b.toNat / 32 % 2 * 32 : Nat) : Int) := by
  have : ∀ i : Fin 256, bits BinOp.and IntKind.u8 ((UInt8.ofNat i.val).toNat : Int) 32 = (((UInt8.ofNat i.val).toNat / 32 % 2 * 32 : Nat) : Int) := by decide +kernel
  have h := this ⟨b.toNat, UInt8.toNat_lt b⟩
  simpa using h
set_option maxRecDepth 100000 in
set_option maxHeartbeats 2000000 in
theorem head_short (b0 b1 : UInt8) (r : List UInt8) (h0 : b0.toNat % 32 ≤ 30) (h1 : b1.toNat < 128) (w : World) :
    Calls Tryz.prog 44 #[.string ⟨(b0 :: b1 :: r).toArray⟩] w fun e w' => e = .returned (.tuple #[.int .i64 2, .int .i64 (b1.toNat : Int), .int .i64 0]) ∧ ∃ m, w' = w.drewN m := by
  have e0 : (⟨(b0 :: b1 :: r).toArray⟩ : ByteArray)[0]'(by simp [ByteArray.size]) = b0 := rfl
  have e1 : (⟨(b0 :: b1 :: r).toArray⟩ : ByteArray)[1]'(by simp [ByteArray.size]) = b1 := rfl
  obtain ⟨T, hT⟩ : ∃ T, b0.toNat % 32 = T := ⟨_, rfl⟩
  have ha := and31 b0
  rw [hT] at ha h0
  have g1 : decide ((30 : Int) < (T : Int)) = false := decide_eq_false (by omega)
  have g2 : decide ((b1.toNat : Int) < 128) = true := decide_eq_true (by omega)
  have g3 : ((r.length : Int) + 1 + 1 == 1) = false := by simp; omega
  clear hT
  go_enter Tryz.func44, Tryz.ntmps44
  go_wp2_with fail
  go_quiet (fail)
  go_wp2_with fail
  refine bodyPost_ret (v := .tuple #[.int .i64 2, .int .i64 (b1.toNat : Int), .int .i64 0]) ?_ rfl ⟨rfl, _, rfl⟩
  simp [results, Tryz.f44]
theorem op_storeRow {P : Program} {w : World} {o : Oper} {a : Act} {K : Act → World → Prop} {Q : Exit → Act → World → Prop} (t : TypeId) (x y : Operand) (ho : o.op = .store t x y)
    (g : Nat) (ty : TypeId) (old cs : Array Value) (hx : a.eval x = .pointer (some ⟨g, 0, none⟩)) (hy : a.eval y = .agg cs) (hg : w.heap[g]? = some (.cells old ty (0, 0))) (hi : (P.info? t).map (·.size) = some cs.size) (hs : old.size = cs.size) (h1 : cs.all (·.oneCell') = true)
    (hK : K (a.put o.dst (.tuple #[])) (w.setRow g cs)) : o.wp P a w K Q := by
  have hr := run_storeVar_row (P := P) w g ty t old cs hg hi hs h1
  unfold Oper.wp execOp
  simp only [ho, hx, hy, Instr.storeAt, Instr.sureAddr, Sem.run_bind, Sem.run_pure, Result.andThen_ok, hr]
  exact hK
theorem Clone_any (s : List UInt8) (w : World) (hl : s.length ≤ 1000000000) :
    Calls Tryz.prog 16 #[.string ⟨s.toArray⟩] w fun e w' => e = .returned (.string ⟨s.toArray⟩) ∧ Below w.heap.size w w' := by
  have k := Tryz.stringslite_Clone ⟨s.toArray⟩ w (by rw [Lib.size_mk]; omega)
  go_enter Tryz.func16, Tryz.ntmps16
  go_wp2_with fail
  refine Calls.mono (show Calls _ _ _ _ _ from k) ?_
  rintro e w1 ⟨rfl, hb⟩
  go_wp2_with fail
  go_ret
  exact ⟨rfl, hb⟩
set_option maxRecDepth 100000 in
set_option maxHeartbeats 4000000 in
theorem read_prim (b0 b1 : UInt8) (c rest : List UInt8) (h0 : b0.toNat % 32 ≤ 30) (h1 : b1.toNat < 128) (hl : c.length = b1.toNat) (hp : b0.toNat / 32 % 2 = 0) (hr : rest.length ≤ 1000000) (d : Nat) (hd : d < 20) (w : World) :
    Calls Tryz.prog 76 #[.string ⟨(b0 :: b1 :: (c ++ rest)).toArray⟩, .int .i64 (d : Int)] w fun e w' => e = .returned (.tuple #[.agg (elA (.mk ((b0.toNat / 64 : Nat) : Int) ((b0.toNat % 32 : Nat) : Int) false c []) (.slice none 0 0)), .string ⟨rest.toArray⟩]) ∧ Below w.heap.size w w' := by
  have b1w : Below w.heap.size w (w.alloc (.cells #[.int .i64 0, .int .i64 0, .bool false, .string ⟨#[]⟩, .slice none 0 0] 76)) := (Below.refl _ _).alloc (Nat.le_refl _) _
  have r1 : (w.alloc (.cells #[.int .i64 0, .int .i64 0, .bool false, .string ⟨#[]⟩, .slice none 0 0] 76)).heap[w.heap.size]? = some (.cells #[.int .i64 0, .int .i64 0, .bool false, .string ⟨#[]⟩, .slice none 0 0] 76 (0, 0)) := alloc_at _ _ _ rfl
  have kh := head_short b0 b1 (c ++ rest) h0 h1 (w.alloc (.cells #[.int .i64 0, .int .i64 0, .bool false, .string ⟨#[]⟩, .slice none 0 0] 76))
  go_enter Tryz.func76, Tryz.ntmps76
  go_wp2_with fail
  refine Calls.mono (show Calls _ _ _ _ _ from kh) ?_
  rintro e w2 ⟨rfl, m, rfl⟩
  have r2 : ((w.alloc (.cells #[.int .i64 0, .int .i64 0, .bool false, .string ⟨#[]⟩, .slice none 0 0] 76)).drewN m).heap[w.heap.size]? = some (.cells #[.int .i64 0, .int .i64 0, .bool false, .string ⟨#[]⟩, .slice none 0 0] 76 (0, 0)) := r1
  have b2 := bel_drwN b1w m
  clear r1 b1w kh
  generalize (w.alloc (.cells #[.int .i64 0, .int .i64 0, .bool false, .string ⟨#[]⟩, .slice none 0 0] 76)).drewN m = w2 at r2 b2 ⊢
  obtain ⟨S, hS⟩ : ∃ S, b0 :: b1 :: (c ++ rest) = S := ⟨_, rfl⟩
  have hSl : S.length = 2 + b1.toNat + rest.length := by rw [← hS]; simp; omega
  have g1 : decide ((20 : Int) ≤ (d : Int)) = false := decide_eq_false (by omega)
  have g2 : decide ((S.length : Int) < 2 + (b1.toNat : Int)) = false := decide_eq_false (by omega)
  rw [hS]
  go_wp2_with fail
  have e0 : (⟨S.toArray⟩ : ByteArray)[0]'(by simp [ByteArray.size]; omega) = b0 := by subst hS; rfl
  have ha := and31 b0
  have hb := and32 b0
  refine wp_region_held (S := fun _ => True) (by kernel_rfl) ?_
  have r3 : w2.drew.heap[w.heap.size]? = some (.cells #[.int .i64 0, .int .i64 0, .bool false, .string ⟨#[]⟩, .slice none 0 0] 76 (0, 0)) := r2
  have b3 : Below w.heap.size w w2.drew := b2.drew
  change wpAnyH _ _ _ _ _ _ _ _ w2.drew
  clear r2 b2
  generalize w2.drew = w3 at r3 b3 ⊢
  refine anyH_take 0 (.string ⟨S.toArray⟩) rfl (by kernel_rfl) (by kernel_rfl) (by kernel_rfl) (fun _ _ _ h => h) (by rfl) (fun w' _ => by go_simp) trivial (fun K hK => ?_); go_simp; refine hK _ _ ?_; clear hK K
  refine anyH_take 4 (.string ⟨S.toArray⟩) rfl (by kernel_rfl) (by kernel_rfl) (by kernel_rfl) (fun _ _ _ h => h) (by rfl) (fun w' _ => by go_simp) trivial (fun K hK => ?_); go_simp; refine hK _ _ ?_; clear hK K
  refine anyH_take 8 (.string ⟨S.toArray⟩) rfl (by kernel_rfl) (by kernel_rfl) (by kernel_rfl) (fun _ _ _ h => h) (by rfl) (fun w' _ => by go_simp) trivial (fun K hK => ?_); go_simp; refine hK _ _ ?_; clear hK K
  refine anyH_take 1 (.int .u8 (b0.toNat : Int)) rfl (by kernel_rfl) (by kernel_rfl) (by kernel_rfl) (fun _ _ _ h => h) (by rfl) (fun w' _ => by have hp0 : ¬ ((2 : Int) + (b1.toNat : Int) + (rest.length : Int) ≤ 0) := (by omega); go_simp) trivial (fun K hK => ?_); go_simp; refine hK _ _ ?_; clear hK K
  refine anyH_take 5 (.int .u8 (b0.toNat : Int)) rfl (by kernel_rfl) (by kernel_rfl) (by kernel_rfl) (fun _ _ _ h => h) (by rfl) (fun w' _ => by have hp0 : ¬ ((2 : Int) + (b1.toNat : Int) + (rest.length : Int) ≤ 0) := (by omega); go_simp) trivial (fun K hK => ?_); go_simp; refine hK _ _ ?_; clear hK K
  refine anyH_take 9 (.int .u8 (b0.toNat : Int)) rfl (by kernel_rfl) (by kernel_rfl) (by kernel_rfl) (fun _ _ _ h => h) (by rfl) (fun w' _ => by have hp0 : ¬ ((2 : Int) + (b1.toNat : Int) + (rest.length : Int) ≤ 0) := (by omega); go_simp) trivial (fun K hK => ?_); go_simp; refine hK _ _ ?_; clear hK K
  obtain ⟨Q, hQ⟩ : ∃ Q, b0.toNat / 64 = Q := ⟨_, rfl⟩
  obtain ⟨R, hR⟩ : ∃ R, b0.toNat % 32 = R := ⟨_, rfl⟩
  refine anyH_take 2 (.int .u8 (Q : Int)) rfl (by kernel_rfl) (by kernel_rfl) (by kernel_rfl) (fun _ _ _ h => h) (by rfl) (fun w' _ => by have hq : (b0.toNat : Int) / 64 = (Q : Int) := (by omega); go_simp) trivial (fun K hK => ?_); go_simp; refine hK _ _ ?_; clear hK K
  have hQ3 : Q ≤ 3 := by have := UInt8.toNat_lt b0; omega
  have hqw : IntKind.i64.wrap (Q : Int) = (Q : Int) := by rw [IntKind.wrap_i64]; omega
  have hrw : IntKind.i64.wrap (R : Int) = (R : Int) := by rw [IntKind.wrap_i64]; omega
  rw [hR] at ha
  rw [hp] at hb
  refine anyH_take 6 (.int .u8 (R : Int)) rfl (by kernel_rfl) (by kernel_rfl) (by kernel_rfl) (fun _ _ _ h => h) (by rfl) (fun w' _ => by go_simp) trivial (fun K hK => ?_); go_simp; refine hK _ _ ?_; clear hK K
  refine anyH_take 10 (.int .u8 0) rfl (by kernel_rfl) (by kernel_rfl) (by kernel_rfl) (fun _ _ _ h => h) (by rfl) (fun w' _ => by go_simp) trivial (fun K hK => ?_); go_simp; refine hK _ _ ?_; clear hK K
  refine anyH_take 3 (.int .i64 (Q : Int)) rfl (by kernel_rfl) (by kernel_rfl) (by kernel_rfl) (fun _ _ _ h => h) (by rfl) (fun w' _ => by go_simp) trivial (fun K hK => ?_); go_simp; refine hK _ _ ?_; clear hK K
  refine anyH_take 7 (.int .i64 (R : Int)) rfl (by kernel_rfl) (by kernel_rfl) (by kernel_rfl) (fun _ _ _ h => h) (by rfl) (fun w' _ => by go_simp) trivial (fun K hK => ?_); go_simp; refine hK _ _ ?_; clear hK K
  refine anyH_take 11 (.bool false) rfl (by kernel_rfl) (by kernel_rfl) (by kernel_rfl) (fun _ _ _ h => h) (by rfl) (fun w' _ => by go_simp) trivial (fun K hK => ?_); go_simp; refine hK _ _ ?_; clear hK K
  refine anyH_take 12 (.agg #[.int .i64 (Q : Int), .int .i64 (R : Int), .bool false, .string ⟨#[]⟩, .slice none 0 0]) rfl (by kernel_rfl) (by kernel_rfl) (by kernel_rfl) (fun _ _ _ h => h) (by rfl) (fun w' _ => by go_simp) trivial (fun K hK => ?_); go_simp; refine hK _ _ ?_; clear hK K
  refine anyH_one 13 (by kernel_rfl) rfl (by rfl) (fun K hK => ?_); go_simp; refine hK _ _ trivial ?_; clear hK K
  refine anyH_one 14 (by kernel_rfl) rfl (by rfl) (fun K hK => ?_); go_simp; refine hK _ _ trivial ?_; clear hK K
  refine wpAnyH_done (by kernel_rfl) ?_ _
  simp only [Exit.then]
  refine ‹∀ (a : Act) (w : World), Code.wp _ _ _ a w → _› _ _ ?_
  have hlt := (Array.getElem?_eq_some_iff.1 r3).1
  have m3 : Below w3.heap.size w3 (w3.alloc (.cells #[.int .i64 (Q : Int), .int .i64 (R : Int), .bool false, .string ⟨#[]⟩, .slice none 0 0] 76)) := (Below.refl _ _).alloc (Nat.le_refl _) _
  have x4 : (w3.alloc (.cells #[.int .i64 (Q : Int), .int .i64 (R : Int), .bool false, .string ⟨#[]⟩, .slice none 0 0] 76)).heap[w3.heap.size]? = some (.cells #[.int .i64 (Q : Int), .int .i64 (R : Int), .bool false, .string ⟨#[]⟩, .slice none 0 0] 76 (0, 0)) := alloc_at _ _ _ rfl
  have r4 := (m3.block _ hlt).trans r3
  have b4 := b3.trans (m3.mono b3.size)
  obtain ⟨G, hG⟩ : ∃ G, w3.heap.size = G := ⟨_, rfl⟩
  rw [hG] at x4 hlt m3
  rw [hG]
  have hs4 := m3.size
  generalize w3.alloc (.cells #[.int .i64 (Q : Int), .int .i64 (R : Int), .bool false, .string ⟨#[]⟩, .slice none 0 0] 76) = w4 at x4 r4 b4 hs4 ⊢
  clear m3 hG r3 b3
  have ex1 : (⟨S.toArray⟩ : ByteArray).extract 2 (2 + b1.toNat) = ⟨c.toArray⟩ := by rw [Lib.extract_eq, ← hS]; simp [← hl]
  have kc := Clone_any c w4 (by omega)
  have q2 : w4.cell? ⟨G, 2, none⟩ = some (.bool false) := (Lib.cell_of_heap x4 2).trans rfl
  go_wp2_with fail
  try rw [ex1]
  refine Calls.mono (show Calls _ _ _ _ _ from kc) ?_
  rintro e w5 ⟨rfl, hb5⟩
  have x5 := (hb5.block _ (Array.getElem?_eq_some_iff.1 x4).1).trans x4
  have r5 := (hb5.block _ (Array.getElem?_eq_some_iff.1 r4).1).trans r4
  have b5 := b4.trans (hb5.mono b4.size)
  have q3 : w5.cell? ⟨G, 3, none⟩ = some (.string ⟨#[]⟩) := (Lib.cell_of_heap x5 3).trans rfl
  have z3 := Lib.frozen_of_heap x5 3
  have x6 : (w5.setCell ⟨G, 3, none⟩ (.string ⟨c.toArray⟩)).heap[G]? = some (.cells #[.int .i64 (Q : Int), .int .i64 (R : Int), .bool false, .string ⟨c.toArray⟩, .slice none 0 0] 76 (0, 0)) := setCell_at (i := 3) (u := .string ⟨c.toArray⟩) x5
  have r6 := (Below.heap_setCell w5 ⟨G, 3, none⟩ (.string ⟨c.toArray⟩) w.heap.size (by show w.heap.size ≠ G; omega)).trans r5
  have b6 := b5.setCell (p := ⟨G, 3, none⟩) (Nat.le_of_lt hlt) (.string ⟨c.toArray⟩)
  clear kc x4 r4 b4 hb5 x5 r5 b5 ex1 q2
  go_wp2_with fail
  clear q3 z3
  generalize w5.setCell ⟨G, 3, none⟩ (.string ⟨c.toArray⟩) = w6 at x6 r6 b6 ⊢
  refine wp_region_held (S := fun w' => w'.heap[G]? = some (.cells #[.int .i64 (Q : Int), .int .i64 (R : Int), .bool false, .string ⟨c.toArray⟩, .slice none 0 0] 76 (0, 0))) (by kernel_rfl) ?_
  have x7 : w6.drew.heap[G]? = some (.cells #[.int .i64 (Q : Int), .int .i64 (R : Int), .bool false, .string ⟨c.toArray⟩, .slice none 0 0] 76 (0, 0)) := x6
  have r7 : w6.drew.heap[w.heap.size]? = some (.cells #[.int .i64 0, .int .i64 0, .bool false, .string ⟨#[]⟩, .slice none 0 0] 76 (0, 0)) := r6
  have b7 : Below w.heap.size w w6.drew := b6.drew
  change wpAnyH _ _ _ _ _ _ _ _ w6.drew
  clear x6 r6 b6
  generalize w6.drew = w7 at x7 r7 b7 ⊢
  refine anyH_take 0 (.agg #[.int .i64 (Q : Int), .int .i64 (R : Int), .bool false, .string ⟨c.toArray⟩, .slice none 0 0]) rfl (by kernel_rfl) (by kernel_rfl) (by kernel_rfl) (fun _ _ _ h => h) (by rfl) (fun w' hS => by exact exec_loadRow 76 (.tmp 9) rfl G 76 _ (0, 0) (by rfl) hS _ Tryz.underlying76 rfl (by rfl)) x7 (fun K hK => ?_); go_simp; refine hK _ _ ?_; clear hK K
  refine anyH_take 1 (.string ⟨S.toArray⟩) rfl (by kernel_rfl) (by kernel_rfl) (by kernel_rfl) (fun _ _ _ h => h) (by rfl) (fun w' hS => by go_simp) x7 (fun K hK => ?_); go_simp; refine hK _ _ ?_; clear hK K
  refine anyH_take 2 (.int .i64 2) rfl (by kernel_rfl) (by kernel_rfl) (by kernel_rfl) (fun _ _ _ h => h) (by rfl) (fun w' hS => by go_simp) x7 (fun K hK => ?_); go_simp; refine hK _ _ ?_; clear hK K
  refine anyH_take 3 (.int .i64 (b1.toNat : Int)) rfl (by kernel_rfl) (by kernel_rfl) (by kernel_rfl) (fun _ _ _ h => h) (by rfl) (fun w' hS => by go_simp) x7 (fun K hK => ?_); go_simp; refine hK _ _ ?_; clear hK K
  have hw2 : IntKind.i64.wrap (2 + (b1.toNat : Int)) = 2 + (b1.toNat : Int) := by rw [IntKind.wrap_i64]; omega
  refine anyH_take 4 (.int .i64 (2 + (b1.toNat : Int))) rfl (by kernel_rfl) (by kernel_rfl) (by kernel_rfl) (fun _ _ _ h => h) (by rfl) (fun w' hS => by go_simp) x7 (fun K hK => ?_); go_simp; refine hK _ _ ?_; clear hK K
  have ex2 : (⟨S.toArray⟩ : ByteArray).extract (2 + b1.toNat) (2 + b1.toNat + rest.length) = ⟨rest.toArray⟩ := by rw [Lib.extract_eq, ← hS]; simp [← hl, Nat.add_comm 2]
  refine anyH_take 5 (.string ⟨rest.toArray⟩) rfl (by kernel_rfl) (by kernel_rfl) (by kernel_rfl) (fun _ _ _ h => h) (by rfl) (fun w' hS => by have hw3 : (0 : Int) ≤ 2 + (b1.toNat : Int) := (by omega); have hw4 : ((2 : Int) + (b1.toNat : Int)).toNat = 2 + b1.toNat := (by omega); go_simp) x7 (fun K hK => ?_); go_simp; refine hK _ _ ?_; clear hK K
  have hlt7 : w.heap.size ≠ G := by omega
  have k8 := setRow_heap w7 w.heap.size _ #[.int .i64 (Q : Int), .int .i64 (R : Int), .bool false, .string ⟨c.toArray⟩, .slice none 0 0] _ _ r7
  have x8 := (setRow_other w7 w.heap.size G #[.int .i64 (Q : Int), .int .i64 (R : Int), .bool false, .string ⟨c.toArray⟩, .slice none 0 0] (by omega)).trans x7
  have b8 := below_row b7 (g := w.heap.size) (Nat.le_refl _) #[.int .i64 (Q : Int), .int .i64 (R : Int), .bool false, .string ⟨c.toArray⟩, .slice none 0 0]
  refine anyH_one 6 (by kernel_rfl) rfl (by rfl) (fun K hK => ?_)
  refine op_storeRow 76 (.tmp 4) (.tmp 60) rfl w.heap.size 76 _ #[.int .i64 (Q : Int), .int .i64 (R : Int), .bool false, .string ⟨c.toArray⟩, .slice none 0 0] (by rfl) (by rfl) r7 (by rfl) (by rfl) (by simp [Value.oneCell']) ?_
  refine hK _ _ x8 ?_; clear hK K
  refine anyH_one 7 (by kernel_rfl) rfl (by rfl) (fun K hK => ?_); go_simp; refine hK _ _ x8 ?_; clear hK K
  refine wpAnyH_done (by kernel_rfl) ?_ _
  simp only [Exit.then]
  refine ‹∀ (a : Act) (w : World), Code.wp _ _ _ a w → _› _ _ ?_
  go_wp2_with fail
  refine bodyPost_ret (v := .tuple #[.agg #[.int .i64 (Q : Int), .int .i64 (R : Int), .bool false, .string ⟨c.toArray⟩, .slice none 0 0], .string ⟨rest.toArray⟩]) ?_ rfl ⟨?_, b8⟩
  · have hr := run_loadVar_row (P := Tryz.prog) (w7.setRow w.heap.size #[.int .i64 (Q : Int), .int .i64 (R : Int), .bool false, .string ⟨c.toArray⟩, .slice none 0 0]) w.heap.size 76 76 #[.int .i64 (Q : Int), .int .i64 (R : Int), .bool false, .string ⟨c.toArray⟩, .slice none 0 0] (0, 0) _ k8 (show Tryz.prog.underlying 76 = _ from Tryz.underlying76) (by rfl) (by rfl)
    simp [results, Tryz.f76, asAddr, hr, Result.andThen]
  · subst hQ hR
    rfl
end Go.Proofs.YtaojidcneocelaaGreatDoor
