/- BerG, BerH, BerI, BerJ. -/
import Derived.OwnWalk
import Derived.Defers
import Derived.Recover
import Derived.Laws.Pointers
import Derived.Test.YthjaiigijbjloaaGreatDoorQ5
namespace Go.Proofs.YthjaiigijbjloaaGreatDoor
open Go.RowKit Go.Lib
set_option maxRecDepth 100000 in
set_option maxHeartbeats 2000000 in
theorem PutSigned_small (v : Nat) (hv : v ≤ 127) (w : World) :
  Calls Tryz.prog 113 #[.int .i64 (v : Int)] w fun e w' => e = .returned (.string ⟨#[UInt8.ofNat v]⟩) ∧ Below w.heap.size w w' := by
 obtain ⟨i0, hi0, hz0, hz1, hz2⟩ := info_parts Tryz.infoByte
 have hnb : (UInt8.ofNat v).toNat = v := by simp [UInt8.toNat_ofNat']; omega
 have HNB := hid hnb
 clear hnb
 go_enter Tryz.func113, Tryz.ntmps113
 go_wp2_with fail
 go_loopw [3] (fun n wr => n = .int .i64 1 ∧ wr = w) (fun _ _ => 0)
 case atStart => exact ⟨rfl, rfl⟩
 case round =>
  obtain ⟨rfl, hwr⟩ := hrel
  have hwr' := hwr.symm
  subst hwr'
  clear hwr
  go_wp2_with (refine wpList_make_full _ rfl (.tmp 23) (.tmp 23) 39 rfl w.heap.size 5 i0 (.int .u8 0) 1 Tryz.underlying39 hi0 hz0 hz1 .i64 .i64 1 1 1 rfl rfl rfl rfl (by rw [hz2]; omega) (by unfold maxLen; omega) (Nat.le_refl _) ?_; intro w2 ho2 hg2)
  have hmc : (madeCells (Value.int .u8 0).cells (1 * 1)).toList = [.int .u8 0] := by simp [madeCells, Value.cells]
  rw [hmc] at ho2
  clear hmc
  have hb2 : Below w.heap.size w w2 := (Below.refl w.heap.size w).grown hg2 (Nat.le_refl _) (fun b hb => by cases hb)
  obtain ⟨c0, z0⟩ := own_cell (i := 0) (x := .int .u8 0) ho2 rfl
  have hset := own_set (i := 0) (x := .int .u8 (v : Int)) ho2 (by decide)
  have HO := hid hset
  clear ho2 hg2 hset
  go_loopw [5, 27] (fun _ c wx => (c = .int .i64 0 ∧ wx = w2) ∨ (c = .int .i64 1 ∧ wx = w2.setCell ⟨w.heap.size, 0, none⟩ (.int .u8 (v : Int)))) (fun _ c _ => 1 - (RowKit.intOf c).toNat)
  case atStart => exact .inl ⟨rfl, rfl⟩
  case round =>
   rcases hrel with ⟨rfl, hwr⟩ | ⟨rfl, hwr⟩
   ·have hwr' := hwr.symm
    subst hwr'
    clear hwr
    have hw1 : (v : Int) % 18446744073709551616 = (v : Int) := by omega
    have hw2 : (v : Int) % 256 = (v : Int) := by omega
    go_wp2_with fail
    exact ⟨by simp, by simp [RowKit.intOf]⟩
   ·have hwr' := hwr.symm
    have hcv := run_str_own (P := Tryz.prog) _ 39 9 5 w.heap.size _ [UInt8.ofNat v] Tryz.underlying39 Tryz.underlying5 Tryz.underlying9 (by rw [show bV [UInt8.ofNat v] = [.int .u8 (v : Int)] by simp [bV, HNB.out]]; exact HO.out)
    rw [← hwr'] at *
    go_wp2_with fail
    go_ret
    exact ⟨rfl, hb2.setCell (p := ⟨w.heap.size, 0, none⟩) (Nat.le_refl _) _⟩
set_option maxRecDepth 100000 in
set_option maxHeartbeats 2000000 in
theorem Int_small (t : Int) (v : Nat) (hv : v ≤ 127) (w : World) :
  Calls Tryz.prog 72 #[.int .i64 t, .int .i64 (v : Int)] w fun e w' => e = .returned (.agg (elA (.mk 0 t false [UInt8.ofNat v] []) (.slice none 0 0))) ∧ Below w.heap.size w w' := by
 have hb : Below w.heap.size w (w.alloc (.cells Ze 45)) := (Below.refl _ _).alloc (Nat.le_refl _) _
 have hr : (w.alloc (.cells Ze 45)).heap[w.heap.size]? = some (.cells Ze 45 (0, 0)) := alloc_at _ _ _ rfl
 have k := PutSigned_small v hv (w.alloc (.cells Ze 45))
 go_enter Tryz.func72, Tryz.ntmps72
 go_wp2_with fail
 refine Calls.mono k ?_
 rintro e w1 ⟨rfl, hb1⟩
 have hr1 := (hb1.block _ (gl hr)).trans hr
 have hbb := hb.trans (hb1.mono hb.size)
 have k2 := Str_any t [UInt8.ofNat v] w1
 clear k hr hb hb1
 go_wp2_with fail
 refine Calls.mono k2 ?_
 rintro e w2 ⟨rfl, hb2⟩
 have hr2 := (hb2.block _ (gl hr1)).trans hr1
 have hb3 := hbb.trans (hb2.mono hbb.size)
 clear hr1 hb2 hbb k2
 have hq := setRow_heap w2 w.heap.size _ #[.int .i64 0, .int .i64 t, .bool false, .string ⟨#[UInt8.ofNat v]⟩, .slice none 0 0] _ _ hr2
 have hb4 := below_row hb3 (g := w.heap.size) (Nat.le_refl _) #[.int .i64 0, .int .i64 t, .bool false, .string ⟨#[UInt8.ofNat v]⟩, .slice none 0 0]
 go_wp2_with (refine wpList_storeRow rfl 45 (.tmp 4) (.tmp 8) rfl w.heap.size 45 _ #[.int .i64 0, .int .i64 t, .bool false, .string ⟨#[UInt8.ofNat v]⟩, .slice none 0 0] (by rfl) (by rfl) hr2 (by rfl) (by rfl) (by simp [Value.oneCell']) ?_)
 all_goals refine bodyPost_ret (v := .agg #[.int .i64 0, .int .i64 t, .bool false, .string ⟨#[UInt8.ofNat v]⟩, .slice none 0 0]) ?_ rfl ⟨rfl, hb4⟩
 all_goals have hr := run_loadVar_row (P := Tryz.prog) (w2.setRow w.heap.size #[.int .i64 0, .int .i64 t, .bool false, .string ⟨#[UInt8.ofNat v]⟩, .slice none 0 0]) (w.heap.size) 45 45 #[.int .i64 0, .int .i64 t, .bool false, .string ⟨#[UInt8.ofNat v]⟩, .slice none 0 0] (0, 0) _ hq (show Tryz.prog.underlying 45 = _ from Tryz.underlying45) (by rfl) (by rfl)
 all_goals simp [results, Tryz.f72]
 all_goals exact hr
theorem Signed_small (v : Nat) (hv : v ≤ 127) (w : World) :
  Calls Tryz.prog 57 #[.string ⟨#[UInt8.ofNat v]⟩] w fun e w' => e = .returned (.tuple #[.int .i64 (v : Int), .int .i64 0]) ∧ w' = w := by
 have hnb : (UInt8.ofNat v).toNat = v := by simp [UInt8.toNat_ofNat']; omega
 obtain ⟨c, hc⟩ : ∃ c, UInt8.ofNat v = c := ⟨_, rfl⟩
 rw [hc] at hnb ⊢
 go_enter Tryz.func57, Tryz.ntmps57
 go_wp2_with fail
 go_loopw [4, 5] (fun x i wr => i = .int .i64 1 ∧ x = .int .i64 (v : Int) ∧ wr = w) (fun _ _ _ => 0)
 case atStart =>
  refine ⟨rfl, ?_, rfl⟩
  show Value.int .i64 (wrap64 (IntKind.i8.wrap (c.toNat : Int))) = _
  have h1 : IntKind.i8.wrap (v : Int) = (v : Int) := by simp [IntKind.wrap, IntKind.bits, IntKind.signed]; omega
  rw [hnb, h1, IntWalk.wrap64_in _ (by omega)]
 case round =>
  obtain ⟨rfl, rfl, rfl⟩ := hrel
  go_wp2_with fail
  go_ret2
  exact ⟨rfl, rfl⟩
def isE (el : El) (c t : Int) (k : Bool) : Bool := decide (el.cls = c) && decide (el.tag = t) && (el.cons == k)
set_option maxRecDepth 100000 in
set_option maxHeartbeats 2000000 in
theorem is_any (el : El) (u : Value) (cl t : Int) (k : Bool) (w : World) (h : KidsAt (fun _ => True) w u el.kids) :
  Calls Tryz.prog 58 #[.agg (elA el u), .int .i64 cl, .int .i64 t, .bool k] w fun e w' => e = .returned (.bool (isE el cl t k)) ∧ Below w.heap.size w w' := by
 obtain ⟨a, c, hf⟩ := h.shape
 subst hf
 clear h
 have hb : Below w.heap.size w (w.alloc (.cells #[.int .i64 el.cls, .int .i64 el.tag, .bool el.cons, .string ⟨el.bytes.toArray⟩, .slice a el.kids.length c] 45)) := (Below.refl _ _).alloc (Nat.le_refl _) _
 unfold elA
 by_cases h1 : el.cls = cl
 ·by_cases h2 : el.tag = t
  ·obtain ⟨b, h3⟩ : ∃ b, el.cons = b := ⟨_, rfl⟩
   have hr : isE el cl t k = (b == k) := by simp [isE, h1, h2, h3]
   rw [hr]
   rw [h1, h2, h3] at hb
   rw [h1, h2, h3]
   clear hr h1 h2 h3
   go_enter Tryz.func58, Tryz.ntmps58
   go_wp2_with fail
   go_ret
   exact ⟨rfl, hb⟩
  ·have hr : isE el cl t k = false := by simp [isE, h2]
   have g2 : (el.tag == t) = false := by simpa using h2
   rw [hr]
   rw [h1] at hb
   rw [h1]
   clear hr h1 h2
   go_enter Tryz.func58, Tryz.ntmps58
   go_wp2_with fail
   go_ret
   exact ⟨rfl, hb⟩
 ·have hr : isE el cl t k = false := by simp [isE, h1]
  have g1 : (el.cls == cl) = false := by simpa using h1
  rw [hr]
  clear hr h1
  go_enter Tryz.func58, Tryz.ntmps58
  go_wp2_with fail
  go_ret
  exact ⟨rfl, hb⟩
set_option maxRecDepth 100000 in
set_option maxHeartbeats 2000000 in
theorem GetStr_any (el : El) (u : Value) (cl t : Int) (w : World) (h : KidsAt (fun _ => True) w u el.kids) :
  Calls Tryz.prog 166 #[.agg (elA el u), .int .i64 cl, .int .i64 t] w fun e w' => e = .returned (if isE el cl t false then .tuple #[.string ⟨el.bytes.toArray⟩, .int .i64 0] else .tuple #[.string ⟨#[]⟩, .int .i64 24]) ∧ Below w.heap.size w w' := by
 obtain ⟨a, c, hf⟩ := h.shape
 subst hf
 have b1 : Below w.heap.size w (w.alloc (.cells #[.int .i64 el.cls, .int .i64 el.tag, .bool el.cons, .string ⟨el.bytes.toArray⟩, .slice a el.kids.length c] 45)) := (Below.refl _ _).alloc (Nat.le_refl _) _
 have r1 : (w.alloc (.cells #[.int .i64 el.cls, .int .i64 el.tag, .bool el.cons, .string ⟨el.bytes.toArray⟩, .slice a el.kids.length c] 45)).heap[w.heap.size]? = some (.cells #[.int .i64 el.cls, .int .i64 el.tag, .bool el.cons, .string ⟨el.bytes.toArray⟩, .slice a el.kids.length c] 45 (0, 0)) := alloc_at _ _ _ rfl
 have k := is_any el _ cl t false _ (h.below b1)
 obtain ⟨R, hR⟩ : ∃ R, isE el cl t false = R := ⟨_, rfl⟩
 rw [hR] at k ⊢
 unfold elA at k ⊢
 clear h hR
 cases R
 all_goals
  simp only [if_true, Bool.false_eq_true, if_false]
  go_enter Tryz.func166, Tryz.ntmps166
  refine wp_seq ?_
  refine wp_region_list ?_
  refine wpList_plain rfl fun K hK => ?_; go_simp; refine hK _ _ ?_; clear hK K
  generalize w.alloc (.cells #[.int .i64 el.cls, .int .i64 el.tag, .bool el.cons, .string ⟨el.bytes.toArray⟩, .slice a el.kids.length c] 45) = w1 at b1 r1 k ⊢
  go_wp2_with (refine wpList_loadRow rfl 45 (.tmp 3) rfl w.heap.size 45 _ (0, 0) (by rfl) r1 _ Tryz.underlying45 rfl (by rfl) ?_)
  refine Calls.mono k ?_
  rintro e w2 ⟨rfl, hb2⟩
  have r2 := (hb2.block _ (gl r1)).trans r1
  have q3 : w2.cell? ⟨w.heap.size, 3, none⟩ = some (.string ⟨el.bytes.toArray⟩) := (cell_of_heap r2 3).trans rfl
  have b2 := b1.trans (hb2.mono b1.size)
  clear k r1 r2 hb2 b1
  go_wp2_with fail
  go_ret2
  exact ⟨rfl, b2⟩
set_option maxRecDepth 100000 in
set_option maxHeartbeats 2000000 in
theorem GetKids_any (el : El) (u : Value) (cl t : Int) (w : World) (h : KidsAt (fun _ => True) w u el.kids) (hs : SmE el) :
  Calls Tryz.prog 135 #[.agg (elA el u), .int .i64 cl, .int .i64 t] w fun e w' => (∃ v, e = .returned (.tuple #[v, .int .i64 (if isE el cl t true then 0 else 24)]) ∧ KidsAt (fun g => w.heap.size ≤ g) w' v (if isE el cl t true then el.kids else [])) ∧ Below w.heap.size w w' := by
 obtain ⟨_, sl, sk⟩ := SmE_parts hs
 obtain ⟨a, c, hf⟩ := h.shape
 subst hf
 have b1 : Below w.heap.size w (w.alloc (.cells #[.int .i64 el.cls, .int .i64 el.tag, .bool el.cons, .string ⟨el.bytes.toArray⟩, .slice a el.kids.length c] 45)) := (Below.refl _ _).alloc (Nat.le_refl _) _
 have r1 : (w.alloc (.cells #[.int .i64 el.cls, .int .i64 el.tag, .bool el.cons, .string ⟨el.bytes.toArray⟩, .slice a el.kids.length c] 45)).heap[w.heap.size]? = some (.cells #[.int .i64 el.cls, .int .i64 el.tag, .bool el.cons, .string ⟨el.bytes.toArray⟩, .slice a el.kids.length c] 45 (0, 0)) := alloc_at _ _ _ rfl
 have k := is_any el _ cl t true _ (h.below b1)
 have H1 := hid (h.below b1)
 have SK := hid sk
 obtain ⟨R, hR⟩ : ∃ R, isE el cl t true = R := ⟨_, rfl⟩
 rw [hR] at k ⊢
 unfold elA at k ⊢
 clear h hR sk hs
 cases R
 all_goals
  simp only [if_true, Bool.false_eq_true, if_false]
  go_enter Tryz.func135, Tryz.ntmps135
  refine wp_seq ?_
  refine wp_region_list ?_
  refine wpList_plain rfl fun K hK => ?_; go_simp; refine hK _ _ ?_; clear hK K
  generalize w.alloc (.cells #[.int .i64 el.cls, .int .i64 el.tag, .bool el.cons, .string ⟨el.bytes.toArray⟩, .slice a el.kids.length c] 45) = w1 at b1 r1 k H1 ⊢
  go_wp2_with (refine wpList_loadRow rfl 45 (.tmp 3) rfl w.heap.size 45 _ (0, 0) (by rfl) r1 _ Tryz.underlying45 rfl (by rfl) ?_)
  refine Calls.mono k ?_
  rintro e w2 ⟨rfl, hb2⟩
  have r2 := (hb2.block _ (gl r1)).trans r1
  have q4 : w2.cell? ⟨w.heap.size, 4, none⟩ = some (.slice a el.kids.length c) := (cell_of_heap r2 4).trans rfl
  have b2 := b1.trans (hb2.mono b1.size)
  have kc := copies_any (depL el.kids) el.kids (Nat.le_refl _) SK.out sl _ w2 (H1.out.below hb2)
  clear k r1 r2 hb2 b1 H1
 ·go_wp2_with fail
  go_ret2
  exact ⟨⟨_, rfl, KidsAt.nil _ _⟩, b2⟩
 ·go_wp2_with fail
  refine Calls.mono kc ?_
  rintro e w3 ⟨⟨v, rfl, hv⟩, hb3⟩
  have b3 := b2.trans (hb3.mono b2.size)
  have hs2 := b2.size
  have HV := hid (hv.mono (Q := fun g => w.heap.size ≤ g) (fun g hg _ => by omega))
  clear kc hv hb3
  go_wp2_with fail
  go_ret2
  exact ⟨⟨_, rfl, HV.out⟩, b3⟩
set_option maxRecDepth 100000 in
set_option maxHeartbeats 2000000 in
theorem GetInt_at (c t : Int) (v : Nat) (hv : v ≤ 127) (na : Option Addr) (nc : Nat) (w : World) :
  Calls Tryz.prog 21 #[.agg (elA (.mk c t false [UInt8.ofNat v] []) (.slice na 0 nc)), .int .i64 c, .int .i64 t] w fun e w' => e = .returned (.tuple #[.int .i64 (v : Int), .int .i64 0]) ∧ Below w.heap.size w w' := by
 have b1 : Below w.heap.size w (w.alloc (.cells #[.int .i64 c, .int .i64 t, .bool false, .string ⟨#[UInt8.ofNat v]⟩, .slice na 0 nc] 45)) := (Below.refl _ _).alloc (Nat.le_refl _) _
 have r1 : (w.alloc (.cells #[.int .i64 c, .int .i64 t, .bool false, .string ⟨#[UInt8.ofNat v]⟩, .slice na 0 nc] 45)).heap[w.heap.size]? = some (.cells #[.int .i64 c, .int .i64 t, .bool false, .string ⟨#[UInt8.ofNat v]⟩, .slice na 0 nc] 45 (0, 0)) := alloc_at _ _ _ rfl
 have ks := Signed_small v hv (w.alloc (.cells #[.int .i64 c, .int .i64 t, .bool false, .string ⟨#[UInt8.ofNat v]⟩, .slice na 0 nc] 45))
 have k := is_any (.mk c t false [UInt8.ofNat v] []) (.slice na 0 nc) c t false (w.alloc (.cells #[.int .i64 c, .int .i64 t, .bool false, .string ⟨#[UInt8.ofNat v]⟩, .slice na 0 nc] 45)) ⟨na, nc, rfl, Nat.zero_le _, fun h => absurd rfl h⟩
 have hi : isE (.mk c t false [UInt8.ofNat v] []) c t false = true := by simp [isE, El.cls, El.tag, El.cons]
 rw [hi] at k
 unfold elA at k ⊢
 simp only [El.cls, El.tag, El.cons, El.bytes] at k ⊢
 clear hi
 go_enter Tryz.func21, Tryz.ntmps21
 refine wp_seq ?_
 refine wp_region_list ?_
 refine wpList_plain rfl fun K hK => ?_; go_simp; refine hK _ _ ?_; clear hK K
 generalize w.alloc (.cells #[.int .i64 c, .int .i64 t, .bool false, .string ⟨#[UInt8.ofNat v]⟩, .slice na 0 nc] 45) = w1 at b1 r1 k ks ⊢
 have q3 : w1.cell? ⟨w.heap.size, 3, none⟩ = some (.string ⟨#[UInt8.ofNat v]⟩) := (cell_of_heap r1 3).trans rfl
 go_wp2_with fail
 refine Calls.mono ks ?_
 rintro e w2 ⟨rfl, rfl⟩
 clear q3 ks
 go_wp2_with (refine wpList_loadRow rfl 45 (.tmp 3) rfl w.heap.size 45 _ (0, 0) (by rfl) r1 _ Tryz.underlying45 rfl (by rfl) ?_)
 refine Calls.mono k ?_
 rintro e w3 ⟨rfl, hb3⟩
 have b3 := b1.trans (hb3.mono b1.size)
 clear k hb3 r1 b1
 go_wp2_with fail
 go_ret2
 exact ⟨rfl, b3⟩
theorem and31 (b : UInt8) : bits BinOp.and IntKind.u8 (b.toNat : Int) 31 = ((b.toNat % 32 : Nat) : Int) := by
 have : ∀ i : Fin 256, bits BinOp.and IntKind.u8 ((UInt8.ofNat i.val).toNat : Int) 31 = (((UInt8.ofNat i.val).toNat % 32 : Nat) : Int) := by decide +kernel
 have h := this ⟨b.toNat, UInt8.toNat_lt b⟩
 simpa using h
theorem and32 (b : UInt8) : bits BinOp.and IntKind.u8 (b.toNat : Int) 32 = ((b.toNat / 32 % 2 * 32 : Nat) : Int) := by
 have : ∀ i : Fin 256, bits BinOp.and IntKind.u8 ((UInt8.ofNat i.val).toNat : Int) 32 = (((UInt8.ofNat i.val).toNat / 32 % 2 * 32 : Nat) : Int) := by decide +kernel
 have h := this ⟨b.toNat, UInt8.toNat_lt b⟩
 simpa using h
set_option maxRecDepth 100000 in
set_option maxHeartbeats 2000000 in
theorem head_short (b0 b1 : UInt8) (r : List UInt8) (h0 : b0.toNat % 32 ≤ 30) (h1 : b1.toNat < 128) (w : World) :
  Calls Tryz.prog 54 #[.string ⟨(b0 :: b1 :: r).toArray⟩] w fun e w' => e = .returned (.tuple #[.int .i64 2, .int .i64 (b1.toNat : Int), .int .i64 0]) ∧ ∃ m, w' = w.drewN m := by
 have e0 : (⟨(b0 :: b1 :: r).toArray⟩ : ByteArray)[0]'(by simp [ByteArray.size]) = b0 := rfl
 have e1 : (⟨(b0 :: b1 :: r).toArray⟩ : ByteArray)[1]'(by simp [ByteArray.size]) = b1 := rfl
 obtain ⟨T, hT⟩ : ∃ T, b0.toNat % 32 = T := ⟨_, rfl⟩
 have ha := and31 b0
 rw [hT] at ha h0
 have g1 : decide ((30 : Int) < (T : Int)) = false := decide_eq_false (by omega)
 have g2 : decide ((b1.toNat : Int) < 128) = true := decide_eq_true (by omega)
 have g3 : ((r.length : Int) + 1 + 1 == 1) = false := by simp; omega
 clear hT
 go_enter Tryz.func54, Tryz.ntmps54
 go_wp2_with fail
 go_quiet (fail)
 go_wp2_with fail
 refine bodyPost_ret (v := .tuple #[.int .i64 2, .int .i64 (b1.toNat : Int), .int .i64 0]) ?_ rfl ⟨rfl, _, rfl⟩
 simp [results, Tryz.f54]
theorem op_storeRow {P : Program} {w : World} {o : Oper} {a : Act} {K : Act → World → Prop} {Q : Exit → Act → World → Prop} (t : TypeId) (x y : Operand) (ho : o.op = .store t x y)
  (g : Nat) (ty : TypeId) (old cs : Array Value) (hx : a.eval x = .pointer (some ⟨g, 0, none⟩)) (hy : a.eval y = .agg cs) (hg : w.heap[g]? = some (.cells old ty (0, 0))) (hi : (P.info? t).map (·.size) = some cs.size) (hs : old.size = cs.size) (h1 : cs.all (·.oneCell') = true)
  (hK : K (a.put o.dst (.tuple #[])) (w.setRow g cs)) : o.wp P a w K Q := by
 have hr := run_storeVar_row (P := P) w g ty t old cs hg hi hs h1
 unfold Oper.wp execOp
 simp only [ho, hx, hy, Instr.storeAt, Instr.sureAddr, Sem.run_bind, Sem.run_pure, Result.andThen_ok, hr]
 exact hK
theorem Clone_any (s : List UInt8) (w : World) (hl : s.length ≤ 1000000000) :
  Calls Tryz.prog 107 #[.string ⟨s.toArray⟩] w fun e w' => e = .returned (.string ⟨s.toArray⟩) ∧ Below w.heap.size w w' := by
 have k := Tryz.stringslite_Clone ⟨s.toArray⟩ w (by rw [Lib.size_mk]; omega)
 go_enter Tryz.func107, Tryz.ntmps107
 go_wp2_with fail
 refine Calls.mono k ?_
 rintro e w1 ⟨rfl, hb⟩
 go_wp2_with fail
 go_ret
 exact ⟨rfl, hb⟩
def sLen : Value → Nat
 | .string s => s.size
 | _ => 0
set_option maxRecDepth 100000 in
set_option maxHeartbeats 2000000 in
theorem read_idle (po pe : Nat) (w : World) :
  CallsD Tryz.prog 55 #[.pointer (some ⟨po, 0, none⟩), .pointer (some ⟨pe, 0, none⟩)] .returning w fun e u' w' => e = .returned (.tuple #[]) ∧ u' = .returning ∧ w' = w := by
 refine callsD_of_wpS Tryz.func55 rfl fun c₀ cs hu => ?_
 apply wpS_seq
 apply wpS_region
 simp [wpOpsS, go_sem, recoverD, hu, Tryz.ntmps55, Exit.thenS]
 refine wpS_of_wp ?_
 simp only [Array.replicate, List.replicate, List.setIfInBounds_toArray, List.set]
 go_wp2
 cases c₀
 simp_all [bodyPostS, results, Tryz.results55]
end Go.Proofs.YthjaiigijbjloaaGreatDoor
