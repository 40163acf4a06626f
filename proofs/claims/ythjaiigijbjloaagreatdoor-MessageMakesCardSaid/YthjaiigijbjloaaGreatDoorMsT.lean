/- message.Write at a message that is right; the statements' first calls of chapter 9. -/
import Derived.Test.YthjaiigijbjloaaGreatDoorMsS
namespace Go.Proofs.YthjaiigijbjloaaGreatDoor
open Go.RowKit Go.Lib

set_option maxRecDepth 100000 in
set_option maxHeartbeats 4000000 in
theorem Write_of (N : Nat) (hN : LenOk N) (A : Array Value) (hsz : A.size = 28) (el : El) (hs : SmE el) (hz : sizeE el ≤ N) (w : World)
    (hval : ∀ w', Below w.heap.size w w' → Calls Tryz.prog 14 #[.agg A] w' fun e w'' => e = .returned (.bool true) ∧ Below w'.heap.size w' w'')
    (hel : ∀ w', Below w.heap.size w w' → Calls Tryz.prog 31 #[.agg A] w' fun e w'' => (∃ u, e = .returned (.agg (elA el u)) ∧ KidsAt (fun g => w'.heap.size ≤ g) w'' u el.kids) ∧ Below w'.heap.size w' w'') :
    Calls Tryz.prog 12 #[.agg A] w fun e w' => e = .returned (.tuple #[.string ⟨(writeE el).1.toArray⟩, .int .i64 (writeE el).2]) ∧ Below w.heap.size w w' := by
  obtain ⟨B, hB⟩ : ∃ B, (writeE el).1.toArray = B := ⟨_, rfl⟩
  obtain ⟨c, hc⟩ : ∃ c, (writeE el).2 = c := ⟨_, rfl⟩
  have kb := fun (u : Value) (w : World) (h : KidsAt (fun _ => True) w u el.kids) => BWrite_any N hN el hs hz u w h
  rw [hB, hc] at kb ⊢
  have KB := Lib.hid kb
  have HZ := Lib.hid hsz
  clear kb hB hc hs hz hsz
  have b1 : Below w.heap.size w (w.alloc (.cells A 28)) := (Below.refl _ _).alloc (Nat.le_refl _) _
  have m1 : (w.alloc (.cells A 28)).heap[w.heap.size]? = some (.cells A 28 (0, 0)) := alloc_at _ _ _ rfl
  have HV := Lib.hid hval
  have HE := Lib.hid hel
  clear hval hel
  go_enter Tryz.func12, Tryz.ntmps12
  go_upto_region 1 with fail
  generalize w.alloc (.cells A 28) = w1 at b1 m1 ⊢
  have kv := HV.out w1 b1
  go_wp2_with (refine wpList_loadRow rfl 28 (.tmp 1) rfl w.heap.size 28 _ (0, 0) (by rfl) m1 _ Tryz.underlying28 rfl (by rw [HZ.out]; rfl) ?_)
  refine Calls.mono (show Calls _ _ _ _ _ from kv) ?_
  rintro e w2 ⟨rfl, hb⟩
  have m2 := (hb.block _ (Array.getElem?_eq_some_iff.1 m1).1).trans m1
  have b2 := b1.trans (hb.mono b1.size)
  clear kv HV hb m1 b1
  have ke := HE.out w2 b2
  go_wp2_with (refine wpList_loadRow rfl 28 (.tmp 1) rfl w.heap.size 28 _ (0, 0) (by rfl) m2 _ Tryz.underlying28 rfl (by rw [HZ.out]; rfl) ?_)
  refine Calls.mono (show Calls _ _ _ _ _ from ke) ?_
  rintro e w3 ⟨⟨u, rfl, hu⟩, hb⟩
  have b3 := b2.trans (hb.mono b2.size)
  clear ke HE hb m2 b2
  have kb := KB.out u w3 (hu.mono fun _ _ _ => trivial)
  clear KB hu
  go_wp2_with fail
  refine Calls.mono (show Calls _ _ _ _ _ from kb) ?_
  rintro e w4 ⟨rfl, hb⟩
  have b4 := b3.trans (hb.mono b3.size)
  clear kb hb b3
  go_wp2_with fail
  refine bodyPost_ret (v := .tuple #[.string ⟨B⟩, .int .i64 c]) ?_ rfl ⟨rfl, b4⟩
  simp [results, Tryz.f12]
/-- The bytes of the first call's message. -/
def aliveE : El := .mk 0 16 true [] [.mk 0 2 false [2] [], bindE 3 [] [115]]
theorem Write_alive (w : World) : Calls Tryz.prog 12 #[.agg (Mg.row { id := 2, op := 0, ver := 3, secret := [115] })] w fun e w' => e = .returned (.tuple #[.string ⟨#[48, 13, 2, 1, 2, 96, 8, 2, 1, 3, 4, 0, 128, 1, 115]⟩, .int .i64 0]) ∧ Below w.heap.size w w' := by
  have h1 : (writeE aliveE).1 = [48, 13, 2, 1, 2, 96, 8, 2, 1, 3, 4, 0, 128, 1, 115] := by decide
  have h2 : (writeE aliveE).2 = 0 := by decide
  have k := Write_of 127 length_short (Mg.row { id := 2, op := 0, ver := 3, secret := [115] }) rfl aliveE (by simp [aliveE, bindE, SmE, SmL]) (by decide) w (fun w' _ => valid_bind 2 3 [] [115] false (by omega) (by omega) (by omega) (by omega) w')
    (fun w' _ => element_nil _ w' 2 [2] (bindE 3 [] [115]) rfl rfl rfl (by simp [bindE, SmE, SmL]) (by simp) (fun w'' => Int_small 2 2 (by omega) w'') (fun w'' _ => op_bind 2 3 [] [115] (by omega) (by simp) (by simp) w''))
  rw [h1, h2] at k
  exact k
theorem Read_alive (w : World) : Calls Tryz.prog 17 #[.string ⟨#[48, 9, 2, 1, 1, 74, 4, 100, 99, 61, 122]⟩] w fun e w' => e = .returned (.tuple #[.agg (msgD 1 10 [100, 99, 61, 122]), .int .i64 0]) ∧ Below w.heap.size w w' := by
  refine Read_delete [48, 9, 2, 1, 1, 74, 4, 100, 99, 61, 122] 1 (by omega) [100, 99, 61, 122] (by simp) ?_ w
  have r1 : Rd [74, 4, 100, 99, 61, 122] (.mk 1 10 false [100, 99, 61, 122] []) [] := Rd.prim 74 4 [100, 99, 61, 122] [] (by decide) (by decide) rfl (by decide)
  have r0 : Rd [2, 1, 1, 74, 4, 100, 99, 61, 122] (.mk 0 2 false [UInt8.ofNat 1] []) [74, 4, 100, 99, 61, 122] := Rd.prim 2 1 [1] [74, 4, 100, 99, 61, 122] (by decide) (by decide) rfl (by decide)
  exact Rd.cons 48 9 [2, 1, 1, 74, 4, 100, 99, 61, 122] [] _ (by decide) (by decide) rfl (by decide) (.cons _ _ _ _ r0 (.cons _ _ _ _ r1 .nil))
set_option maxRecDepth 100000 in
theorem alive9_any (w : World) : Calls Tryz.prog 10 #[] w fun e w' => e = .returned (.bool true) ∧ Below w.heap.size w w' := by
  have k1 := Write_alive w
  obtain ⟨D, hD⟩ : ∃ D, msgD 1 10 [100, 99, 61, 122] = D := ⟨_, rfl⟩
  have hD1 : D.all (·.oneCell') = true := by rw [← hD]; simp [msgD, Value.oneCell']
  have hD2 : D.size = 28 := by rw [← hD]; rfl
  have HD := Lib.hid hD
  have HD1 := Lib.hid hD1
  have HD2 := Lib.hid hD2
  clear hD hD1 hD2
  go_enter Tryz.func10, Tryz.ntmps10
  go_wp2_with fail
  refine Calls.mono (show Calls _ _ _ _ _ from k1) ?_
  rintro e w1 ⟨rfl, b1⟩
  clear k1
  have k2 := Read_alive w1
  rw [HD.out] at k2
  go_wp2_with fail
  refine Calls.mono (show Calls _ _ _ _ _ from k2) ?_
  rintro e w2 ⟨rfl, hb⟩
  have b2 := b1.trans (hb.mono b1.size)
  clear k2 hb b1
  have x3 : (w2.alloc (.cells #[.int .i64 0, .int .i64 0, .string ⟨#[]⟩, .int .i64 0, .bool false, .string ⟨#[]⟩, .int .i64 0, .int .i64 0, .int .i64 0, .int .i64 0, .bool false, .slice none 0 0, .slice none 0 0, .slice none 0 0, .slice none 0 0, .string ⟨#[]⟩, .string ⟨#[]⟩, .bool false, .bool false, .string ⟨#[]⟩, .string ⟨#[]⟩, .string ⟨#[]⟩, .bool false, .int .i64 0, .int .i64 0, .string ⟨#[]⟩, .string ⟨#[]⟩, .slice none 0 0] 28)).heap[w2.heap.size]? = some (.cells #[.int .i64 0, .int .i64 0, .string ⟨#[]⟩, .int .i64 0, .bool false, .string ⟨#[]⟩, .int .i64 0, .int .i64 0, .int .i64 0, .int .i64 0, .bool false, .slice none 0 0, .slice none 0 0, .slice none 0 0, .slice none 0 0, .string ⟨#[]⟩, .string ⟨#[]⟩, .bool false, .bool false, .string ⟨#[]⟩, .string ⟨#[]⟩, .string ⟨#[]⟩, .bool false, .int .i64 0, .int .i64 0, .string ⟨#[]⟩, .string ⟨#[]⟩, .slice none 0 0] 28 (0, 0)) := alloc_at _ _ _ rfl
  have b3 : Below w.heap.size w ((w2.alloc (.cells #[.int .i64 0, .int .i64 0, .string ⟨#[]⟩, .int .i64 0, .bool false, .string ⟨#[]⟩, .int .i64 0, .int .i64 0, .int .i64 0, .int .i64 0, .bool false, .slice none 0 0, .slice none 0 0, .slice none 0 0, .slice none 0 0, .string ⟨#[]⟩, .string ⟨#[]⟩, .bool false, .bool false, .string ⟨#[]⟩, .string ⟨#[]⟩, .string ⟨#[]⟩, .bool false, .int .i64 0, .int .i64 0, .string ⟨#[]⟩, .string ⟨#[]⟩, .slice none 0 0] 28)).setRow w2.heap.size D) := below_row (b2.alloc b2.size _) b2.size D
  have e3 := setRow_heap (w2.alloc (.cells #[.int .i64 0, .int .i64 0, .string ⟨#[]⟩, .int .i64 0, .bool false, .string ⟨#[]⟩, .int .i64 0, .int .i64 0, .int .i64 0, .int .i64 0, .bool false, .slice none 0 0, .slice none 0 0, .slice none 0 0, .slice none 0 0, .string ⟨#[]⟩, .string ⟨#[]⟩, .bool false, .bool false, .string ⟨#[]⟩, .string ⟨#[]⟩, .string ⟨#[]⟩, .bool false, .int .i64 0, .int .i64 0, .string ⟨#[]⟩, .string ⟨#[]⟩, .slice none 0 0] 28)) w2.heap.size _ D _ _ x3
  have X3 := Lib.hid x3
  have q1 : ((w2.alloc (.cells #[.int .i64 0, .int .i64 0, .string ⟨#[]⟩, .int .i64 0, .bool false, .string ⟨#[]⟩, .int .i64 0, .int .i64 0, .int .i64 0, .int .i64 0, .bool false, .slice none 0 0, .slice none 0 0, .slice none 0 0, .slice none 0 0, .string ⟨#[]⟩, .string ⟨#[]⟩, .bool false, .bool false, .string ⟨#[]⟩, .string ⟨#[]⟩, .string ⟨#[]⟩, .bool false, .int .i64 0, .int .i64 0, .string ⟨#[]⟩, .string ⟨#[]⟩, .slice none 0 0] 28)).setRow w2.heap.size D).cell? ⟨w2.heap.size, 1, none⟩ = some (.int .i64 10) := (Lib.cell_of_heap e3 1).trans (by rw [← HD.out]; rfl)
  have q2 : ((w2.alloc (.cells #[.int .i64 0, .int .i64 0, .string ⟨#[]⟩, .int .i64 0, .bool false, .string ⟨#[]⟩, .int .i64 0, .int .i64 0, .int .i64 0, .int .i64 0, .bool false, .slice none 0 0, .slice none 0 0, .slice none 0 0, .slice none 0 0, .string ⟨#[]⟩, .string ⟨#[]⟩, .bool false, .bool false, .string ⟨#[]⟩, .string ⟨#[]⟩, .string ⟨#[]⟩, .bool false, .int .i64 0, .int .i64 0, .string ⟨#[]⟩, .string ⟨#[]⟩, .slice none 0 0] 28)).setRow w2.heap.size D).cell? ⟨w2.heap.size, 2, none⟩ = some (.string ⟨#[100, 99, 61, 122]⟩) := (Lib.cell_of_heap e3 2).trans (by rw [← HD.out]; rfl)
  have Q1 := Lib.hid q1
  have Q2 := Lib.hid q2
  clear q1 q2
  have B3 := Lib.hid b3
  clear x3 b2 b3 e3
  go_wp2_with (refine wpList_storeRow rfl 28 (.tmp 3) (.tmp 12) rfl w2.heap.size 28 #[.int .i64 0, .int .i64 0, .string ⟨#[]⟩, .int .i64 0, .bool false, .string ⟨#[]⟩, .int .i64 0, .int .i64 0, .int .i64 0, .int .i64 0, .bool false, .slice none 0 0, .slice none 0 0, .slice none 0 0, .slice none 0 0, .string ⟨#[]⟩, .string ⟨#[]⟩, .bool false, .bool false, .string ⟨#[]⟩, .string ⟨#[]⟩, .string ⟨#[]⟩, .bool false, .int .i64 0, .int .i64 0, .string ⟨#[]⟩, .string ⟨#[]⟩, .slice none 0 0] D (by rfl) (by rfl) X3.out (by rw [HD2.out]; rfl) (by rw [HD2.out]; rfl) HD1.out ?_; have q1 := Q1.out; have q2 := Q2.out; generalize ((w2.alloc (.cells #[.int .i64 0, .int .i64 0, .string ⟨#[]⟩, .int .i64 0, .bool false, .string ⟨#[]⟩, .int .i64 0, .int .i64 0, .int .i64 0, .int .i64 0, .bool false, .slice none 0 0, .slice none 0 0, .slice none 0 0, .slice none 0 0, .string ⟨#[]⟩, .string ⟨#[]⟩, .bool false, .bool false, .string ⟨#[]⟩, .string ⟨#[]⟩, .string ⟨#[]⟩, .bool false, .int .i64 0, .int .i64 0, .string ⟨#[]⟩, .string ⟨#[]⟩, .slice none 0 0] 28)).setRow w2.heap.size D) = w4 at q1 q2 B3 ⊢; clear Q1 Q2 X3)
  go_ret
  exact ⟨rfl, B3.out⟩
end Go.Proofs.YthjaiigijbjloaaGreatDoor
