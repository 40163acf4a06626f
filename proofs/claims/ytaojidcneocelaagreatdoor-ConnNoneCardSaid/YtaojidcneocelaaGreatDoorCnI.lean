/- The statements' first calls of chapter 25; the law ConnNone: what a nil connection tells. (Written by gencni.py.) -/
import Derived.Test.YtaojidcneocelaaGreatDoorCnH
namespace Go.Proofs.YtaojidcneocelaaGreatDoor
open Go.RowKit Go.Lib

theorem WaitsAt.below {B C : Nat} {inn : List UInt8} {cur : Value} {ticks : Int} {w w' : World} {g cap r : Nat} (h : WaitsAt B C inn cur ticks w g cap r) (hb : Below w.heap.size w w') : WaitsAt B C inn cur ticks w' g cap r := by
  obtain ⟨h1, h2, ⟨born, cl, h3⟩, h4⟩ := h
  exact ⟨(hb.block _ (Array.getElem?_eq_some_iff.1 h1).1).trans h1, own_below h2 hb, ⟨born, cl, (hb.block _ (Array.getElem?_eq_some_iff.1 h3).1).trans h3⟩, h4⟩
theorem BelP.below {P : Nat → Prop} {B : Nat} {a w : World} (h : BelP P a w) (hP : ∀ j, j < B → ¬ P j) (hB : B ≤ a.heap.size) : Below B a w := ⟨h.os, h.tape, h.output, h.size, fun j hj => h.block j (by omega) (hP j hj)⟩
set_option maxRecDepth 100000 in
set_option maxHeartbeats 4000000 in
theorem alive25_any (w : World) : Calls Tryz.prog 9 #[] w fun e w' => e = .returned (.bool true) ∧ Below w.heap.size w w' := by
  obtain ⟨Z, hZ⟩ : ∃ Z : Array Value, #[.int .i64 0, .int .i64 0, .string ⟨#[]⟩, .int .i64 0, .bool false, .string ⟨#[]⟩, .int .i64 0, .int .i64 0, .int .i64 0, .int .i64 0, .bool false, .slice none 0 0, .slice none 0 0, .slice none 0 0, .slice none 0 0, .string ⟨#[]⟩, .string ⟨#[]⟩, .bool false, .bool false, .string ⟨#[]⟩, .string ⟨#[]⟩, .string ⟨#[]⟩, .bool false, .int .i64 0, .int .i64 0, .string ⟨#[]⟩, .string ⟨#[]⟩, .slice none 0 0] = Z := ⟨_, rfl⟩
  have hZ1 : Z.all (·.oneCell') = true := by rw [← hZ]; simp [Value.oneCell']
  have hZ2 : Z.size = 28 := by rw [← hZ]; rfl
  obtain ⟨D, hD⟩ : ∃ D : Array Value, #[.int .i64 1, .int .i64 10, .string ⟨#[100, 99, 61, 122]⟩, .int .i64 0, .bool false, .string ⟨#[]⟩, .int .i64 0, .int .i64 0, .int .i64 0, .int .i64 0, .bool false, .slice none 0 0, .slice none 0 0, .slice none 0 0, .slice none 0 0, .string ⟨#[]⟩, .string ⟨#[]⟩, .bool false, .bool false, .string ⟨#[]⟩, .string ⟨#[]⟩, .string ⟨#[]⟩, .bool false, .int .i64 0, .int .i64 0, .string ⟨#[]⟩, .string ⟨#[]⟩, .slice none 0 0] = D := ⟨_, rfl⟩
  have hD1 : D.all (·.oneCell') = true := by rw [← hD]; simp [Value.oneCell']
  have hD2 : D.size = 28 := by rw [← hD]; rfl
  have hD3 : D[2]? = some (.string ⟨#[100, 99, 61, 122]⟩) := by rw [← hD]; rfl
  have kn := fun C inn ids ticks w h => Next_none C inn ids ticks w h
  have ko := fun B C ticks w g cap r h => Next_one B C ticks w g cap r h
  simp only [hZ] at kn
  simp only [hD] at ko
  have KN := Lib.hid kn
  have KO := Lib.hid ko
  have HZ1 := Lib.hid hZ1
  have HZ2 := Lib.hid hZ2
  have HD1 := Lib.hid hD1
  have HD2 := Lib.hid hD2
  have HD3 := Lib.hid hD3
  clear kn ko hZ hZ1 hZ2 hD hD1 hD2 hD3
  have hx : (⟨#[48, 9, 2, 1, 1, 74, 4, 100, 99, 61, 122]⟩ : ByteArray).extract 0 3 = ⟨#[48, 9, 2]⟩ := by rfl
  have hy : (⟨#[48, 9, 2, 1, 1, 74, 4, 100, 99, 61, 122]⟩ : ByteArray).extract 3 11 = ⟨#[1, 1, 74, 4, 100, 99, 61, 122]⟩ := by rfl
  have k1 := New_any w
  go_enter Tryz.func9, Tryz.ntmps9
  go_wp2_with fail
  refine Calls.mono (show Calls _ _ _ _ _ from k1) ?_
  rintro e w1 ⟨rfl, C1, b1⟩
  clear k1
  have hC1 := (Array.getElem?_eq_some_iff.1 C1).1
  have hCle : w.heap.size ≤ w.heap.size := Nat.le_refl _
  generalize hC : w.heap.size = C at C1 hC1 hCle ⊢
  have HC := Lib.hid hC
  rw [← hC] at hCle
  clear hC
  have k2 := Write_delete1 w1
  go_wp2_with fail
  refine Calls.mono (show Calls _ _ _ _ _ from k2) ?_
  rintro e w2 ⟨rfl, hb⟩
  have C2 := (hb.block C hC1).trans C1
  have b2 := b1.trans (hb.mono b1.size)
  clear k2 hb C1 b1 hC1
  have k3 := Feed_one C w2 C2
  go_wp2_with fail
  refine Calls.mono (show Calls _ _ _ _ _ from k3) ?_
  rintro e w3 ⟨rfl, C3, hb⟩
  have hwC : w.heap.size ≤ C := Nat.le_of_eq HC.out
  have b3 := b2.trans ((hb.mono b2.size).below hwC)
  clear k3 hb C2 b2 hx hCle HC
  have k4 := KN.out C [48, 9, 2] (.map none) 0 w3 C3
  go_wp2_with fail
  refine Calls.mono (show Calls _ _ _ _ _ from k4) ?_
  rintro e w4 ⟨rfl, hb⟩
  have C4 := (hb.block C (Array.getElem?_eq_some_iff.1 C3).1).trans C3
  have b4 := b3.trans (hb.mono b3.size)
  clear k4 hb KN C3 b3
  have y5 : (w4.alloc (.cells #[.int .i64 0, .int .i64 0, .string ⟨#[]⟩, .int .i64 0, .bool false, .string ⟨#[]⟩, .int .i64 0, .int .i64 0, .int .i64 0, .int .i64 0, .bool false, .slice none 0 0, .slice none 0 0, .slice none 0 0, .slice none 0 0, .string ⟨#[]⟩, .string ⟨#[]⟩, .bool false, .bool false, .string ⟨#[]⟩, .string ⟨#[]⟩, .string ⟨#[]⟩, .bool false, .int .i64 0, .int .i64 0, .string ⟨#[]⟩, .string ⟨#[]⟩, .slice none 0 0] 32)).heap[w4.heap.size]? = some (.cells #[.int .i64 0, .int .i64 0, .string ⟨#[]⟩, .int .i64 0, .bool false, .string ⟨#[]⟩, .int .i64 0, .int .i64 0, .int .i64 0, .int .i64 0, .bool false, .slice none 0 0, .slice none 0 0, .slice none 0 0, .slice none 0 0, .string ⟨#[]⟩, .string ⟨#[]⟩, .bool false, .bool false, .string ⟨#[]⟩, .string ⟨#[]⟩, .string ⟨#[]⟩, .bool false, .int .i64 0, .int .i64 0, .string ⟨#[]⟩, .string ⟨#[]⟩, .slice none 0 0] 32 (0, 0)) := alloc_at _ _ _ rfl
  have g5 : Below w4.heap.size w4 ((w4.alloc (.cells #[.int .i64 0, .int .i64 0, .string ⟨#[]⟩, .int .i64 0, .bool false, .string ⟨#[]⟩, .int .i64 0, .int .i64 0, .int .i64 0, .int .i64 0, .bool false, .slice none 0 0, .slice none 0 0, .slice none 0 0, .slice none 0 0, .string ⟨#[]⟩, .string ⟨#[]⟩, .bool false, .bool false, .string ⟨#[]⟩, .string ⟨#[]⟩, .string ⟨#[]⟩, .bool false, .int .i64 0, .int .i64 0, .string ⟨#[]⟩, .string ⟨#[]⟩, .slice none 0 0] 32)).setRow w4.heap.size Z) := below_row ((Below.refl _ _).alloc (Nat.le_refl _) _) (Nat.le_refl _) Z
  have Y5 := Lib.hid y5
  have C5 := (g5.block C (Array.getElem?_eq_some_iff.1 C4).1).trans C4
  have b5 := b4.trans (g5.mono b4.size)
  have HC5 := Lib.hid C5
  have HB5 := Lib.hid b5
  clear y5 g5 C5 b5 C4 b4
  go_wp2_with (refine wpList_storeRow rfl 32 (.tmp 4) (.tmp 25) rfl w4.heap.size 32 #[.int .i64 0, .int .i64 0, .string ⟨#[]⟩, .int .i64 0, .bool false, .string ⟨#[]⟩, .int .i64 0, .int .i64 0, .int .i64 0, .int .i64 0, .bool false, .slice none 0 0, .slice none 0 0, .slice none 0 0, .slice none 0 0, .string ⟨#[]⟩, .string ⟨#[]⟩, .bool false, .bool false, .string ⟨#[]⟩, .string ⟨#[]⟩, .string ⟨#[]⟩, .bool false, .int .i64 0, .int .i64 0, .string ⟨#[]⟩, .string ⟨#[]⟩, .slice none 0 0] Z (by rfl) (by rfl) Y5.out (by rw [HZ2.out]; rfl) (by rw [HZ2.out]; rfl) HZ1.out ?_; generalize ((w4.alloc (.cells #[.int .i64 0, .int .i64 0, .string ⟨#[]⟩, .int .i64 0, .bool false, .string ⟨#[]⟩, .int .i64 0, .int .i64 0, .int .i64 0, .int .i64 0, .bool false, .slice none 0 0, .slice none 0 0, .slice none 0 0, .slice none 0 0, .string ⟨#[]⟩, .string ⟨#[]⟩, .bool false, .bool false, .string ⟨#[]⟩, .string ⟨#[]⟩, .string ⟨#[]⟩, .bool false, .int .i64 0, .int .i64 0, .string ⟨#[]⟩, .string ⟨#[]⟩, .slice none 0 0] 32)).setRow w4.heap.size Z) = w5 at HC5 HB5 ⊢; clear Y5)
  have k6 := Feed_two C w5 HC5.out
  refine Calls.mono (show Calls _ _ _ _ _ from k6) ?_
  rintro e w6 ⟨rfl, ⟨g, cap, r, W6⟩, hb⟩
  have b6 := HB5.out.trans ((hb.mono HB5.out.size).below hwC)
  have hg : w.heap.size ≤ g := by
    have := (W6.own.lt g rfl).1
    have := HB5.out.size
    omega
  have hr : w.heap.size ≤ r := by
    have := W6.hr
    have := HB5.out.size
    omega
  clear k6 hb HC5 HB5 hy
  have k7 := Waiting_one _ C [] (.pointer none) 0 w6 g cap r W6
  have hgl : g < w6.heap.size := (W6.own.lt g rfl).2
  have hrl : r < w6.heap.size := by
    obtain ⟨born, cl, h⟩ := W6.ids
    exact (Array.getElem?_eq_some_iff.1 h).1
  have hCl : C < w6.heap.size := (Array.getElem?_eq_some_iff.1 W6.row).1
  go_wp2_with fail
  refine Calls.mono (show Calls _ _ _ _ _ from k7) ?_
  rintro e w7 ⟨⟨b, c, rfl, hbl, q7⟩, hb⟩
  have W7 := W6.below hb
  have b7 := b6.trans (hb.mono b6.size)
  have hbb := lt_of_cell q7
  clear k7 hb W6 b6
  have k8 := KO.out _ C 0 w7 g cap r W7
  go_wp2_with fail
  refine Calls.mono (show Calls _ _ _ _ _ from k8) ?_
  rintro e w8 ⟨rfl, ⟨F, hF, C8, q8⟩, hb⟩
  have p8 : w8.cell? ⟨b, 0, none⟩ = some (.int .i64 1) := (World.cell?_of_block (a := ⟨b, 0, none⟩) (hb.block b hbb (by omega))).trans q7
  have b8 := b7.trans (hb.below (B := w.heap.size) (by omega) b7.size)
  clear k8 hb KO W7 b7 q7 hbb hF hgl hrl hCl hbl hg hr
  have y9 : (w8.alloc (.cells #[.int .i64 0, .int .i64 0, .string ⟨#[]⟩, .int .i64 0, .bool false, .string ⟨#[]⟩, .int .i64 0, .int .i64 0, .int .i64 0, .int .i64 0, .bool false, .slice none 0 0, .slice none 0 0, .slice none 0 0, .slice none 0 0, .string ⟨#[]⟩, .string ⟨#[]⟩, .bool false, .bool false, .string ⟨#[]⟩, .string ⟨#[]⟩, .string ⟨#[]⟩, .bool false, .int .i64 0, .int .i64 0, .string ⟨#[]⟩, .string ⟨#[]⟩, .slice none 0 0] 32)).heap[w8.heap.size]? = some (.cells #[.int .i64 0, .int .i64 0, .string ⟨#[]⟩, .int .i64 0, .bool false, .string ⟨#[]⟩, .int .i64 0, .int .i64 0, .int .i64 0, .int .i64 0, .bool false, .slice none 0 0, .slice none 0 0, .slice none 0 0, .slice none 0 0, .string ⟨#[]⟩, .string ⟨#[]⟩, .bool false, .bool false, .string ⟨#[]⟩, .string ⟨#[]⟩, .string ⟨#[]⟩, .bool false, .int .i64 0, .int .i64 0, .string ⟨#[]⟩, .string ⟨#[]⟩, .slice none 0 0] 32 (0, 0)) := alloc_at _ _ _ rfl
  have g9 : Below w8.heap.size w8 ((w8.alloc (.cells #[.int .i64 0, .int .i64 0, .string ⟨#[]⟩, .int .i64 0, .bool false, .string ⟨#[]⟩, .int .i64 0, .int .i64 0, .int .i64 0, .int .i64 0, .bool false, .slice none 0 0, .slice none 0 0, .slice none 0 0, .slice none 0 0, .string ⟨#[]⟩, .string ⟨#[]⟩, .bool false, .bool false, .string ⟨#[]⟩, .string ⟨#[]⟩, .string ⟨#[]⟩, .bool false, .int .i64 0, .int .i64 0, .string ⟨#[]⟩, .string ⟨#[]⟩, .slice none 0 0] 32)).setRow w8.heap.size D) := below_row ((Below.refl _ _).alloc (Nat.le_refl _) _) (Nat.le_refl _) D
  have e9 := setRow_heap (w8.alloc (.cells #[.int .i64 0, .int .i64 0, .string ⟨#[]⟩, .int .i64 0, .bool false, .string ⟨#[]⟩, .int .i64 0, .int .i64 0, .int .i64 0, .int .i64 0, .bool false, .slice none 0 0, .slice none 0 0, .slice none 0 0, .slice none 0 0, .string ⟨#[]⟩, .string ⟨#[]⟩, .bool false, .bool false, .string ⟨#[]⟩, .string ⟨#[]⟩, .string ⟨#[]⟩, .bool false, .int .i64 0, .int .i64 0, .string ⟨#[]⟩, .string ⟨#[]⟩, .slice none 0 0] 32)) w8.heap.size _ D _ _ y9
  have C9 := (g9.block C (Array.getElem?_eq_some_iff.1 C8).1).trans C8
  have q9 := (g9.cell (lt_of_cell q8)).trans q8
  have p9 := (g9.cell (lt_of_cell p8)).trans p8
  have r9 := (Lib.cell_of_heap e9 2).trans HD3.out
  have b9 := b8.trans (g9.mono b8.size)
  have Y9 := Lib.hid y9
  have HC9 := Lib.hid C9
  have HQ9 := Lib.hid q9
  have HP9 := Lib.hid p9
  have HR9 := Lib.hid r9
  have HB9 := Lib.hid b9
  clear y9 g9 e9 C9 q9 p9 r9 b9 C8 q8 p8 b8
  go_wp2_with (refine wpList_storeRow rfl 32 (.tmp 7) (.tmp 36) rfl w8.heap.size 32 #[.int .i64 0, .int .i64 0, .string ⟨#[]⟩, .int .i64 0, .bool false, .string ⟨#[]⟩, .int .i64 0, .int .i64 0, .int .i64 0, .int .i64 0, .bool false, .slice none 0 0, .slice none 0 0, .slice none 0 0, .slice none 0 0, .string ⟨#[]⟩, .string ⟨#[]⟩, .bool false, .bool false, .string ⟨#[]⟩, .string ⟨#[]⟩, .string ⟨#[]⟩, .bool false, .int .i64 0, .int .i64 0, .string ⟨#[]⟩, .string ⟨#[]⟩, .slice none 0 0] D (by rfl) (by rfl) Y9.out (by rw [HD2.out]; rfl) (by rw [HD2.out]; rfl) HD1.out ?_; generalize ((w8.alloc (.cells #[.int .i64 0, .int .i64 0, .string ⟨#[]⟩, .int .i64 0, .bool false, .string ⟨#[]⟩, .int .i64 0, .int .i64 0, .int .i64 0, .int .i64 0, .bool false, .slice none 0 0, .slice none 0 0, .slice none 0 0, .slice none 0 0, .string ⟨#[]⟩, .string ⟨#[]⟩, .bool false, .bool false, .string ⟨#[]⟩, .string ⟨#[]⟩, .string ⟨#[]⟩, .bool false, .int .i64 0, .int .i64 0, .string ⟨#[]⟩, .string ⟨#[]⟩, .slice none 0 0] 32)).setRow w8.heap.size D) = w9 at HC9 HQ9 HP9 HR9 HB9 ⊢; clear Y9; have p9 := HP9.out; have r9 := HR9.out)
  have ka := Current_at C F _ _ _ _ 1 w9 HC9.out HQ9.out
  refine Calls.mono (show Calls _ _ _ _ _ from ka) ?_
  rintro e w10 ⟨rfl, hw⟩
  rw [hw]
  clear hw w10 ka
  have ka := Closed_at C _ _ _ _ _ w9 HC9.out
  go_wp2_with fail
  refine Calls.mono (show Calls _ _ _ _ _ from ka) ?_
  rintro e w10 ⟨rfl, hw⟩
  rw [hw]
  clear hw w10 ka
  have ka := Limit_at C w9
  go_wp2_with fail
  refine Calls.mono (show Calls _ _ _ _ _ from ka) ?_
  rintro e w10 ⟨rfl, hw⟩
  rw [hw]
  clear hw w10 ka
  go_wp2_with fail
  go_ret
  exact ⟨rfl, HB9.out⟩
set_option maxRecDepth 100000 in
set_option maxHeartbeats 4000000 in
theorem ConnNone_any (b : List UInt8) (w : World) (_ : b.length ≤ 140737488351232) (_ : Env w) : Calls Tryz.prog 3 #[.string ⟨b.toArray⟩] w fun e w' => e = .returned (.bool true) ∧ Below w.heap.size w w' := by
  obtain ⟨Z, hZ⟩ : ∃ Z : Array Value, #[.int .i64 0, .int .i64 0, .string ⟨#[]⟩, .int .i64 0, .bool false, .string ⟨#[]⟩, .int .i64 0, .int .i64 0, .int .i64 0, .int .i64 0, .bool false, .slice none 0 0, .slice none 0 0, .slice none 0 0, .slice none 0 0, .string ⟨#[]⟩, .string ⟨#[]⟩, .bool false, .bool false, .string ⟨#[]⟩, .string ⟨#[]⟩, .string ⟨#[]⟩, .bool false, .int .i64 0, .int .i64 0, .string ⟨#[]⟩, .string ⟨#[]⟩, .slice none 0 0] = Z := ⟨_, rfl⟩
  have hZ1 : Z.all (·.oneCell') = true := by rw [← hZ]; simp [Value.oneCell']
  have hZ2 : Z.size = 28 := by rw [← hZ]; rfl
  have kn := fun w => cNext_nil w
  simp only [hZ] at kn
  have KN := Lib.hid kn
  have HZ1 := Lib.hid hZ1
  have HZ2 := Lib.hid hZ2
  clear kn hZ hZ1 hZ2
  go_enter Tryz.func3, Tryz.ntmps3
  go_wp2_with (first
    | (go_at_call 4; refine Calls.mono (show Calls _ _ _ _ _ from cFeed_nil _ _) ?_; rintro e w3 ⟨rfl, hw⟩; rw [hw]; clear hw)
    | (go_at_call 5; refine Calls.mono (show Calls _ _ _ _ _ from cBind_nil _ _) ?_; rintro e w3 ⟨rfl, hw⟩; rw [hw]; clear hw)
    | (go_at_call 6; refine Calls.mono (show Calls _ _ _ _ _ from cDone_nil _) ?_; rintro e w3 ⟨rfl, hw⟩; rw [hw]; clear hw)
    | (go_at_call 7; refine Calls.mono (show Calls _ _ _ _ _ from cIdle_nil _) ?_; rintro e w3 ⟨rfl, hw⟩; rw [hw]; clear hw))
  have k4 := KN.out w
  refine Calls.mono (show Calls _ _ _ _ _ from k4) ?_
  rintro e w4 ⟨rfl, b4⟩
  clear k4 KN
  have y5 : (w4.alloc (.cells #[.int .i64 0, .int .i64 0, .string ⟨#[]⟩, .int .i64 0, .bool false, .string ⟨#[]⟩, .int .i64 0, .int .i64 0, .int .i64 0, .int .i64 0, .bool false, .slice none 0 0, .slice none 0 0, .slice none 0 0, .slice none 0 0, .string ⟨#[]⟩, .string ⟨#[]⟩, .bool false, .bool false, .string ⟨#[]⟩, .string ⟨#[]⟩, .string ⟨#[]⟩, .bool false, .int .i64 0, .int .i64 0, .string ⟨#[]⟩, .string ⟨#[]⟩, .slice none 0 0] 32)).heap[w4.heap.size]? = some (.cells #[.int .i64 0, .int .i64 0, .string ⟨#[]⟩, .int .i64 0, .bool false, .string ⟨#[]⟩, .int .i64 0, .int .i64 0, .int .i64 0, .int .i64 0, .bool false, .slice none 0 0, .slice none 0 0, .slice none 0 0, .slice none 0 0, .string ⟨#[]⟩, .string ⟨#[]⟩, .bool false, .bool false, .string ⟨#[]⟩, .string ⟨#[]⟩, .string ⟨#[]⟩, .bool false, .int .i64 0, .int .i64 0, .string ⟨#[]⟩, .string ⟨#[]⟩, .slice none 0 0] 32 (0, 0)) := alloc_at _ _ _ rfl
  have g5 : Below w4.heap.size w4 ((w4.alloc (.cells #[.int .i64 0, .int .i64 0, .string ⟨#[]⟩, .int .i64 0, .bool false, .string ⟨#[]⟩, .int .i64 0, .int .i64 0, .int .i64 0, .int .i64 0, .bool false, .slice none 0 0, .slice none 0 0, .slice none 0 0, .slice none 0 0, .string ⟨#[]⟩, .string ⟨#[]⟩, .bool false, .bool false, .string ⟨#[]⟩, .string ⟨#[]⟩, .string ⟨#[]⟩, .bool false, .int .i64 0, .int .i64 0, .string ⟨#[]⟩, .string ⟨#[]⟩, .slice none 0 0] 32)).setRow w4.heap.size Z) := below_row ((Below.refl _ _).alloc (Nat.le_refl _) _) (Nat.le_refl _) Z
  have Y5 := Lib.hid y5
  have b5 := b4.trans (g5.mono b4.size)
  have HB5 := Lib.hid b5
  clear y5 g5 b5 b4
  go_wp2_with (refine wpList_storeRow rfl 32 (.tmp 4) (.tmp 19) rfl w4.heap.size 32 #[.int .i64 0, .int .i64 0, .string ⟨#[]⟩, .int .i64 0, .bool false, .string ⟨#[]⟩, .int .i64 0, .int .i64 0, .int .i64 0, .int .i64 0, .bool false, .slice none 0 0, .slice none 0 0, .slice none 0 0, .slice none 0 0, .string ⟨#[]⟩, .string ⟨#[]⟩, .bool false, .bool false, .string ⟨#[]⟩, .string ⟨#[]⟩, .string ⟨#[]⟩, .bool false, .int .i64 0, .int .i64 0, .string ⟨#[]⟩, .string ⟨#[]⟩, .slice none 0 0] Z (by rfl) (by rfl) Y5.out (by rw [HZ2.out]; rfl) (by rw [HZ2.out]; rfl) HZ1.out ?_; generalize ((w4.alloc (.cells #[.int .i64 0, .int .i64 0, .string ⟨#[]⟩, .int .i64 0, .bool false, .string ⟨#[]⟩, .int .i64 0, .int .i64 0, .int .i64 0, .int .i64 0, .bool false, .slice none 0 0, .slice none 0 0, .slice none 0 0, .slice none 0 0, .string ⟨#[]⟩, .string ⟨#[]⟩, .bool false, .bool false, .string ⟨#[]⟩, .string ⟨#[]⟩, .string ⟨#[]⟩, .bool false, .int .i64 0, .int .i64 0, .string ⟨#[]⟩, .string ⟨#[]⟩, .slice none 0 0] 32)).setRow w4.heap.size Z) = w5 at HB5 ⊢; clear Y5)
  have k6 := alive25_any w5
  refine Calls.mono (show Calls _ _ _ _ _ from k6) ?_
  rintro e w6 ⟨rfl, hb⟩
  have b6 := HB5.out.trans (hb.mono HB5.out.size)
  clear k6 hb HB5
  go_wp2_with (first
    | (go_at_call 10; refine Calls.mono (show Calls _ _ _ _ _ from cClosed_nil _) ?_; rintro e w7 ⟨rfl, hw⟩; rw [hw]; clear hw)
    | (go_at_call 11; refine Calls.mono (show Calls _ _ _ _ _ from cTake_nil _) ?_; rintro e w7 ⟨rfl, hw⟩; rw [hw]; clear hw)
    | (go_at_call 12; refine Calls.mono (show Calls _ _ _ _ _ from cWho_nil _) ?_; rintro e w7 ⟨rfl, hw⟩; rw [hw]; clear hw)
    | (go_at_call 13; refine Calls.mono (show Calls _ _ _ _ _ from cWaiting_nil _) ?_; rintro e w7 ⟨rfl, hw⟩; rw [hw]; clear hw)
    | (go_at_call 14; refine Calls.mono (show Calls _ _ _ _ _ from cCurrent_nil _) ?_; rintro e w7 ⟨rfl, hw⟩; rw [hw]; clear hw))
  go_ret
  exact ⟨rfl, b6⟩
end Go.Proofs.YtaojidcneocelaaGreatDoor
