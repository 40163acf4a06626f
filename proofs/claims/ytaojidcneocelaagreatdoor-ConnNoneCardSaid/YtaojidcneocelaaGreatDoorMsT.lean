/- message.Write at a message that is right. -/
import Derived.Test.YtaojidcneocelaaGreatDoorMsS
namespace Go.Proofs.YtaojidcneocelaaGreatDoor
open Go.RowKit Go.Lib

set_option maxRecDepth 100000 in
set_option maxHeartbeats 4000000 in
theorem Write_of (N : Nat) (hN : LenOk N) (A : Array Value) (hsz : A.size = 28) (el : El) (hs : SmE el) (hz : sizeE el ≤ N) (w : World)
    (hval : ∀ w', Below w.heap.size w w' → Calls Tryz.prog 41 #[.agg A] w' fun e w'' => e = .returned (.bool true) ∧ Below w'.heap.size w' w'')
    (hel : ∀ w', Below w.heap.size w w' → Calls Tryz.prog 43 #[.agg A] w' fun e w'' => (∃ u, e = .returned (.agg (elA el u)) ∧ KidsAt (fun g => w'.heap.size ≤ g) w'' u el.kids) ∧ Below w'.heap.size w' w'') :
    Calls Tryz.prog 25 #[.agg A] w fun e w' => e = .returned (.tuple #[.string ⟨(writeE el).1.toArray⟩, .int .i64 (writeE el).2]) ∧ Below w.heap.size w w' := by
  obtain ⟨B, hB⟩ : ∃ B, (writeE el).1.toArray = B := ⟨_, rfl⟩
  obtain ⟨c, hc⟩ : ∃ c, (writeE el).2 = c := ⟨_, rfl⟩
  have kb := fun (u : Value) (w : World) (h : KidsAt (fun _ => True) w u el.kids) => BWrite_any N hN el hs hz u w h
  rw [hB, hc] at kb ⊢
  have KB := Lib.hid kb
  have HZ := Lib.hid hsz
  clear kb hB hc hs hz hsz
  have b1 : Below w.heap.size w (w.alloc (.cells A 32)) := (Below.refl _ _).alloc (Nat.le_refl _) _
  have m1 : (w.alloc (.cells A 32)).heap[w.heap.size]? = some (.cells A 32 (0, 0)) := alloc_at _ _ _ rfl
  have HV := Lib.hid hval
  have HE := Lib.hid hel
  clear hval hel
  go_enter Tryz.func25, Tryz.ntmps25
  go_upto_region 1 with fail
  generalize w.alloc (.cells A 32) = w1 at b1 m1 ⊢
  have kv := HV.out w1 b1
  go_wp2_with (refine wpList_loadRow rfl 32 (.tmp 1) rfl w.heap.size 32 _ (0, 0) (by rfl) m1 _ Tryz.underlying32 rfl (by rw [HZ.out]; rfl) ?_)
  refine Calls.mono (show Calls _ _ _ _ _ from kv) ?_
  rintro e w2 ⟨rfl, hb⟩
  have m2 := (hb.block _ (Array.getElem?_eq_some_iff.1 m1).1).trans m1
  have b2 := b1.trans (hb.mono b1.size)
  clear kv HV hb m1 b1
  have ke := HE.out w2 b2
  go_wp2_with (refine wpList_loadRow rfl 32 (.tmp 1) rfl w.heap.size 32 _ (0, 0) (by rfl) m2 _ Tryz.underlying32 rfl (by rw [HZ.out]; rfl) ?_)
  refine Calls.mono (show Calls _ _ _ _ _ from ke) ?_
  rintro e w3 ⟨⟨u, rfl, hu⟩, hb⟩
  have b3 := b2.trans (hb.mono b2.size)
  clear ke HE hb m2 b2
  have kb := KB.out u w3 (hu.mono fun _ _ _ => trivial)
  clear KB hu
  go_wp2_with fail
  refine Calls.mono (show Calls _ _ _ _ _ from kb) ?_
  rintro e w4 ⟨rfl, hb⟩
  have b4 := b3.trans (hb.mono b3.size)
  clear kb hb b3
  go_wp2_with fail
  refine bodyPost_ret (v := .tuple #[.string ⟨B⟩, .int .i64 c]) ?_ rfl ⟨rfl, b4⟩
  simp [results, Tryz.f25]
/-- The bytes of the first call's message. -/
def aliveE : El := .mk 0 16 true [] [.mk 0 2 false [2] [], bindE 3 [] [115]]
theorem Write_alive (w : World) : Calls Tryz.prog 25 #[.agg (Mg.row { id := 2, op := 0, ver := 3, secret := [115] })] w fun e w' => e = .returned (.tuple #[.string ⟨#[48, 13, 2, 1, 2, 96, 8, 2, 1, 3, 4, 0, 128, 1, 115]⟩, .int .i64 0]) ∧ Below w.heap.size w w' := by
  have h1 : (writeE aliveE).1 = [48, 13, 2, 1, 2, 96, 8, 2, 1, 3, 4, 0, 128, 1, 115] := by decide
  have h2 : (writeE aliveE).2 = 0 := by decide
  have k := Write_of 127 length_short (Mg.row { id := 2, op := 0, ver := 3, secret := [115] }) rfl aliveE (by simp [aliveE, bindE, SmE, SmL]) (by decide) w (fun w' _ => valid_bind 2 3 [] [115] false (by omega) (by omega) (by omega) (by omega) w')
    (fun w' _ => element_nil _ w' 2 [2] (bindE 3 [] [115]) rfl rfl rfl (by simp [bindE, SmE, SmL]) (by simp) (fun w'' => Int_small 2 2 (by omega) w'') (fun w'' _ => op_bind 2 3 [] [115] (by omega) (by simp) (by simp) w''))
  rw [h1, h2] at k
  exact k
theorem Read_alive (w : World) : Calls Tryz.prog 30 #[.string ⟨#[48, 9, 2, 1, 1, 74, 4, 100, 99, 61, 122]⟩] w fun e w' => e = .returned (.tuple #[.agg (msgD 1 10 [100, 99, 61, 122]), .int .i64 0]) ∧ Below w.heap.size w w' := by
  refine Read_delete [48, 9, 2, 1, 1, 74, 4, 100, 99, 61, 122] 1 (by omega) [100, 99, 61, 122] (by simp) ?_ w
  have r1 : Rd [74, 4, 100, 99, 61, 122] (.mk 1 10 false [100, 99, 61, 122] []) [] := Rd.prim 74 4 [100, 99, 61, 122] [] (by decide) (by decide) rfl (by decide)
  have r0 : Rd [2, 1, 1, 74, 4, 100, 99, 61, 122] (.mk 0 2 false [UInt8.ofNat 1] []) [74, 4, 100, 99, 61, 122] := Rd.prim 2 1 [1] [74, 4, 100, 99, 61, 122] (by decide) (by decide) rfl (by decide)
  exact Rd.cons 48 9 [2, 1, 1, 74, 4, 100, 99, 61, 122] [] _ (by decide) (by decide) rfl (by decide) (.cons _ _ _ _ r0 (.cons _ _ _ _ r1 .nil))
end Go.Proofs.YtaojidcneocelaaGreatDoor
