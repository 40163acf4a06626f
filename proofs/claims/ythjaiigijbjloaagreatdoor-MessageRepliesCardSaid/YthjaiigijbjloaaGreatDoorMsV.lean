/- message.Result, Notice; the document's Reply, IsRequest. (Written by genmsu.py.) -/
import Derived.Test.YthjaiigijbjloaaGreatDoorMsT
namespace Go.Proofs.YthjaiigijbjloaaGreatDoor
open Go.RowKit Go.Lib

theorem row_one (m : Mg) (h : m.filt = .slice none 0 0 ∧ m.sel = .slice none 0 0 ∧ m.mods = .slice none 0 0 ∧ m.attrs = .slice none 0 0 ∧ m.ctl = .slice none 0 0) : m.row.all (·.oneCell') = true := by
  obtain ⟨h1, h2, h3, h4, h5⟩ := h
  simp [Mg.row, h1, h2, h3, h4, h5, Value.oneCell']
set_option maxRecDepth 100000 in
theorem Result_any (id op code : Int) (matched text : List UInt8) (w : World) :
    Calls Tryz.prog 24 #[.int .i64 id, .int .i64 op, .int .i64 code, .string ⟨matched.toArray⟩, .string ⟨text.toArray⟩] w fun e w' => e = .returned (.agg (Mg.row { id := id, op := op, code := code, matched := matched, text := text })) ∧ Below w.heap.size w w' := by
  have x3 : (w.alloc (.cells #[.int .i64 0, .int .i64 0, .string ⟨#[]⟩, .int .i64 0, .bool false, .string ⟨#[]⟩, .int .i64 0, .int .i64 0, .int .i64 0, .int .i64 0, .bool false, .slice none 0 0, .slice none 0 0, .slice none 0 0, .slice none 0 0, .string ⟨#[]⟩, .string ⟨#[]⟩, .bool false, .bool false, .string ⟨#[]⟩, .string ⟨#[]⟩, .string ⟨#[]⟩, .bool false, .int .i64 0, .int .i64 0, .string ⟨#[]⟩, .string ⟨#[]⟩, .slice none 0 0] 28)).heap[w.heap.size]? = some (.cells #[.int .i64 0, .int .i64 0, .string ⟨#[]⟩, .int .i64 0, .bool false, .string ⟨#[]⟩, .int .i64 0, .int .i64 0, .int .i64 0, .int .i64 0, .bool false, .slice none 0 0, .slice none 0 0, .slice none 0 0, .slice none 0 0, .string ⟨#[]⟩, .string ⟨#[]⟩, .bool false, .bool false, .string ⟨#[]⟩, .string ⟨#[]⟩, .string ⟨#[]⟩, .bool false, .int .i64 0, .int .i64 0, .string ⟨#[]⟩, .string ⟨#[]⟩, .slice none 0 0] 28 (0, 0)) := alloc_at _ _ _ rfl
  have X3 := Lib.hid x3
  obtain ⟨D, hD⟩ : ∃ D, Mg.row { id := id, op := op, code := code, matched := matched, text := text } = D := ⟨_, rfl⟩
  have hD0 : (#[.int .i64 id, .int .i64 op, .string ⟨#[]⟩, .int .i64 0, .bool false, .string ⟨#[]⟩, .int .i64 0, .int .i64 0, .int .i64 0, .int .i64 0, .bool false, .slice none 0 0, .slice none 0 0, .slice none 0 0, .slice none 0 0, .string ⟨#[]⟩, .string ⟨#[]⟩, .bool false, .bool false, .string ⟨#[]⟩, .string ⟨#[]⟩, .string ⟨#[]⟩, .bool false, .int .i64 0, .int .i64 code, .string ⟨matched.toArray⟩, .string ⟨text.toArray⟩, .slice none 0 0] : Array Value) = D := hD
  have hD1 : D.all (·.oneCell') = true := by rw [← hD]; exact row_one _ ⟨rfl, rfl, rfl, rfl, rfl⟩
  have hD2 : D.size = 28 := by rw [← hD]; rfl
  have b3 : Below w.heap.size w ((w.alloc (.cells #[.int .i64 0, .int .i64 0, .string ⟨#[]⟩, .int .i64 0, .bool false, .string ⟨#[]⟩, .int .i64 0, .int .i64 0, .int .i64 0, .int .i64 0, .bool false, .slice none 0 0, .slice none 0 0, .slice none 0 0, .slice none 0 0, .string ⟨#[]⟩, .string ⟨#[]⟩, .bool false, .bool false, .string ⟨#[]⟩, .string ⟨#[]⟩, .string ⟨#[]⟩, .bool false, .int .i64 0, .int .i64 0, .string ⟨#[]⟩, .string ⟨#[]⟩, .slice none 0 0] 28)).setRow w.heap.size D) := below_row ((Below.refl _ _).alloc (Nat.le_refl _) _) (Nat.le_refl _) D
  have e3 := setRow_heap (w.alloc (.cells #[.int .i64 0, .int .i64 0, .string ⟨#[]⟩, .int .i64 0, .bool false, .string ⟨#[]⟩, .int .i64 0, .int .i64 0, .int .i64 0, .int .i64 0, .bool false, .slice none 0 0, .slice none 0 0, .slice none 0 0, .slice none 0 0, .string ⟨#[]⟩, .string ⟨#[]⟩, .bool false, .bool false, .string ⟨#[]⟩, .string ⟨#[]⟩, .string ⟨#[]⟩, .bool false, .int .i64 0, .int .i64 0, .string ⟨#[]⟩, .string ⟨#[]⟩, .slice none 0 0] 28)) w.heap.size _ D _ _ x3
  have E3 := Lib.hid e3
  have B3 := Lib.hid b3
  rw [hD]
  have HD0 := Lib.hid hD0
  have HD1 := Lib.hid hD1
  have HD2 := Lib.hid hD2
  clear hD hD0 hD1 hD2 x3 e3 b3
  go_enter Tryz.func24, Tryz.ntmps24
  go_wp2_with (refine wpList_storeRow rfl 28 (.tmp 10) (.tmp 16) rfl w.heap.size 28 #[.int .i64 0, .int .i64 0, .string ⟨#[]⟩, .int .i64 0, .bool false, .string ⟨#[]⟩, .int .i64 0, .int .i64 0, .int .i64 0, .int .i64 0, .bool false, .slice none 0 0, .slice none 0 0, .slice none 0 0, .slice none 0 0, .string ⟨#[]⟩, .string ⟨#[]⟩, .bool false, .bool false, .string ⟨#[]⟩, .string ⟨#[]⟩, .string ⟨#[]⟩, .bool false, .int .i64 0, .int .i64 0, .string ⟨#[]⟩, .string ⟨#[]⟩, .slice none 0 0] D (by rfl) (by show Act.eval _ (.tmp 16) = .agg D; rw [← HD0.out]; rfl) X3.out (by rw [HD2.out]; rfl) (by rw [HD2.out]; rfl) HD1.out ?_; have e3 := E3.out; generalize ((w.alloc (.cells #[.int .i64 0, .int .i64 0, .string ⟨#[]⟩, .int .i64 0, .bool false, .string ⟨#[]⟩, .int .i64 0, .int .i64 0, .int .i64 0, .int .i64 0, .bool false, .slice none 0 0, .slice none 0 0, .slice none 0 0, .slice none 0 0, .string ⟨#[]⟩, .string ⟨#[]⟩, .bool false, .bool false, .string ⟨#[]⟩, .string ⟨#[]⟩, .string ⟨#[]⟩, .bool false, .int .i64 0, .int .i64 0, .string ⟨#[]⟩, .string ⟨#[]⟩, .slice none 0 0] 28)).setRow w.heap.size D) = w4 at e3 B3 ⊢; have E4 := Lib.hid e3; clear e3 E3 X3)
  refine bodyPost_ret (v := .agg D) ?_ rfl ⟨rfl, B3.out⟩
  have hr := run_loadVar_row (P := Tryz.prog) w4 w.heap.size 28 28 D (0, 0) _ E4.out (show Tryz.prog.underlying 28 = _ from Tryz.underlying28) (by rfl) (by rw [HD2.out]; rfl)
  simp [results, Tryz.f24]
  exact hr
def noticeOid : List UInt8 := [49, 46, 51, 46, 54, 46, 49, 46, 52, 46, 49, 46, 49, 52, 54, 54, 46, 50, 48, 48, 51, 54]
set_option maxRecDepth 100000 in
set_option maxHeartbeats 4000000 in
theorem Notice_any (code : Int) (text : List UInt8) (w : World) :
    Calls Tryz.prog 25 #[.int .i64 code, .string ⟨text.toArray⟩] w fun e w' => e = .returned (.agg (Mg.row { op := 24, code := code, text := text, oid := noticeOid })) ∧ Below w.heap.size w w' := by
  obtain ⟨D, hD⟩ : ∃ D, Mg.row { id := 0, op := 24, code := code, matched := [], text := text } = D := ⟨_, rfl⟩
  have hD1 : D.all (·.oneCell') = true := by rw [← hD]; exact row_one _ ⟨rfl, rfl, rfl, rfl, rfl⟩
  have hD2 : D.size = 28 := by rw [← hD]; rfl
  obtain ⟨F, hF⟩ : ∃ F, Mg.row { op := 24, code := code, text := text, oid := noticeOid } = F := ⟨_, rfl⟩
  have hF0 : D.setIfInBounds 21 (.string ⟨#[49, 46, 51, 46, 54, 46, 49, 46, 52, 46, 49, 46, 49, 52, 54, 54, 46, 50, 48, 48, 51, 54]⟩) = F := by rw [← hD, ← hF]; rfl
  have hF1 : F.all (·.oneCell') = true := by rw [← hF]; exact row_one _ ⟨rfl, rfl, rfl, rfl, rfl⟩
  have hF2 : F.size = 28 := by rw [← hF]; rfl
  have HDD : Hid (D[21]? = some (.string ⟨#[]⟩)) := Lib.hid (by rw [← hD]; rfl)
  rw [hF]
  have x1 : (w.alloc (.cells #[.int .i64 0, .int .i64 0, .string ⟨#[]⟩, .int .i64 0, .bool false, .string ⟨#[]⟩, .int .i64 0, .int .i64 0, .int .i64 0, .int .i64 0, .bool false, .slice none 0 0, .slice none 0 0, .slice none 0 0, .slice none 0 0, .string ⟨#[]⟩, .string ⟨#[]⟩, .bool false, .bool false, .string ⟨#[]⟩, .string ⟨#[]⟩, .string ⟨#[]⟩, .bool false, .int .i64 0, .int .i64 0, .string ⟨#[]⟩, .string ⟨#[]⟩, .slice none 0 0] 28)).heap[w.heap.size]? = some (.cells #[.int .i64 0, .int .i64 0, .string ⟨#[]⟩, .int .i64 0, .bool false, .string ⟨#[]⟩, .int .i64 0, .int .i64 0, .int .i64 0, .int .i64 0, .bool false, .slice none 0 0, .slice none 0 0, .slice none 0 0, .slice none 0 0, .string ⟨#[]⟩, .string ⟨#[]⟩, .bool false, .bool false, .string ⟨#[]⟩, .string ⟨#[]⟩, .string ⟨#[]⟩, .bool false, .int .i64 0, .int .i64 0, .string ⟨#[]⟩, .string ⟨#[]⟩, .slice none 0 0] 28 (0, 0)) := alloc_at _ _ _ rfl
  have b1 : Below w.heap.size w (w.alloc (.cells #[.int .i64 0, .int .i64 0, .string ⟨#[]⟩, .int .i64 0, .bool false, .string ⟨#[]⟩, .int .i64 0, .int .i64 0, .int .i64 0, .int .i64 0, .bool false, .slice none 0 0, .slice none 0 0, .slice none 0 0, .slice none 0 0, .string ⟨#[]⟩, .string ⟨#[]⟩, .bool false, .bool false, .string ⟨#[]⟩, .string ⟨#[]⟩, .string ⟨#[]⟩, .bool false, .int .i64 0, .int .i64 0, .string ⟨#[]⟩, .string ⟨#[]⟩, .slice none 0 0] 28)) := (Below.refl _ _).alloc (Nat.le_refl _) _
  have kr := Result_any 0 24 code [] text (w.alloc (.cells #[.int .i64 0, .int .i64 0, .string ⟨#[]⟩, .int .i64 0, .bool false, .string ⟨#[]⟩, .int .i64 0, .int .i64 0, .int .i64 0, .int .i64 0, .bool false, .slice none 0 0, .slice none 0 0, .slice none 0 0, .slice none 0 0, .string ⟨#[]⟩, .string ⟨#[]⟩, .bool false, .bool false, .string ⟨#[]⟩, .string ⟨#[]⟩, .string ⟨#[]⟩, .bool false, .int .i64 0, .int .i64 0, .string ⟨#[]⟩, .string ⟨#[]⟩, .slice none 0 0] 28))
  rw [hD] at kr
  have HD1 := Lib.hid hD1
  have HD2 := Lib.hid hD2
  have HF0 := Lib.hid hF0
  have HF1 := Lib.hid hF1
  have HF2 := Lib.hid hF2
  clear hD hD1 hD2 hF hF0 hF1 hF2
  go_enter Tryz.func25, Tryz.ntmps25
  go_wp2_with fail
  generalize w.alloc (.cells #[.int .i64 0, .int .i64 0, .string ⟨#[]⟩, .int .i64 0, .bool false, .string ⟨#[]⟩, .int .i64 0, .int .i64 0, .int .i64 0, .int .i64 0, .bool false, .slice none 0 0, .slice none 0 0, .slice none 0 0, .slice none 0 0, .string ⟨#[]⟩, .string ⟨#[]⟩, .bool false, .bool false, .string ⟨#[]⟩, .string ⟨#[]⟩, .string ⟨#[]⟩, .bool false, .int .i64 0, .int .i64 0, .string ⟨#[]⟩, .string ⟨#[]⟩, .slice none 0 0] 28) = w1 at x1 b1 kr ⊢
  refine Calls.mono (show Calls _ _ _ _ _ from kr) ?_
  rintro e w2 ⟨rfl, hb⟩
  have x2 := (hb.block _ (Array.getElem?_eq_some_iff.1 x1).1).trans x1
  have b2 := b1.trans (hb.mono b1.size)
  have hs2 := (Array.getElem?_eq_some_iff.1 x2).1
  clear kr hb x1 b1
  have y3 : (w2.alloc (.cells #[.int .i64 0, .int .i64 0, .string ⟨#[]⟩, .int .i64 0, .bool false, .string ⟨#[]⟩, .int .i64 0, .int .i64 0, .int .i64 0, .int .i64 0, .bool false, .slice none 0 0, .slice none 0 0, .slice none 0 0, .slice none 0 0, .string ⟨#[]⟩, .string ⟨#[]⟩, .bool false, .bool false, .string ⟨#[]⟩, .string ⟨#[]⟩, .string ⟨#[]⟩, .bool false, .int .i64 0, .int .i64 0, .string ⟨#[]⟩, .string ⟨#[]⟩, .slice none 0 0] 28)).heap[w2.heap.size]? = some (.cells #[.int .i64 0, .int .i64 0, .string ⟨#[]⟩, .int .i64 0, .bool false, .string ⟨#[]⟩, .int .i64 0, .int .i64 0, .int .i64 0, .int .i64 0, .bool false, .slice none 0 0, .slice none 0 0, .slice none 0 0, .slice none 0 0, .string ⟨#[]⟩, .string ⟨#[]⟩, .bool false, .bool false, .string ⟨#[]⟩, .string ⟨#[]⟩, .string ⟨#[]⟩, .bool false, .int .i64 0, .int .i64 0, .string ⟨#[]⟩, .string ⟨#[]⟩, .slice none 0 0] 28 (0, 0)) := alloc_at _ _ _ rfl
  have b3 : Below w.heap.size w ((w2.alloc (.cells #[.int .i64 0, .int .i64 0, .string ⟨#[]⟩, .int .i64 0, .bool false, .string ⟨#[]⟩, .int .i64 0, .int .i64 0, .int .i64 0, .int .i64 0, .bool false, .slice none 0 0, .slice none 0 0, .slice none 0 0, .slice none 0 0, .string ⟨#[]⟩, .string ⟨#[]⟩, .bool false, .bool false, .string ⟨#[]⟩, .string ⟨#[]⟩, .string ⟨#[]⟩, .bool false, .int .i64 0, .int .i64 0, .string ⟨#[]⟩, .string ⟨#[]⟩, .slice none 0 0] 28)).setRow w2.heap.size D) := below_row (b2.alloc b2.size _) b2.size D
  have e3 := setRow_heap (w2.alloc (.cells #[.int .i64 0, .int .i64 0, .string ⟨#[]⟩, .int .i64 0, .bool false, .string ⟨#[]⟩, .int .i64 0, .int .i64 0, .int .i64 0, .int .i64 0, .bool false, .slice none 0 0, .slice none 0 0, .slice none 0 0, .slice none 0 0, .string ⟨#[]⟩, .string ⟨#[]⟩, .bool false, .bool false, .string ⟨#[]⟩, .string ⟨#[]⟩, .string ⟨#[]⟩, .bool false, .int .i64 0, .int .i64 0, .string ⟨#[]⟩, .string ⟨#[]⟩, .slice none 0 0] 28)) w2.heap.size _ D _ _ y3
  have x3 : ((w2.alloc (.cells #[.int .i64 0, .int .i64 0, .string ⟨#[]⟩, .int .i64 0, .bool false, .string ⟨#[]⟩, .int .i64 0, .int .i64 0, .int .i64 0, .int .i64 0, .bool false, .slice none 0 0, .slice none 0 0, .slice none 0 0, .slice none 0 0, .string ⟨#[]⟩, .string ⟨#[]⟩, .bool false, .bool false, .string ⟨#[]⟩, .string ⟨#[]⟩, .string ⟨#[]⟩, .bool false, .int .i64 0, .int .i64 0, .string ⟨#[]⟩, .string ⟨#[]⟩, .slice none 0 0] 28)).setRow w2.heap.size D).heap[w.heap.size]? = some (.cells #[.int .i64 0, .int .i64 0, .string ⟨#[]⟩, .int .i64 0, .bool false, .string ⟨#[]⟩, .int .i64 0, .int .i64 0, .int .i64 0, .int .i64 0, .bool false, .slice none 0 0, .slice none 0 0, .slice none 0 0, .slice none 0 0, .string ⟨#[]⟩, .string ⟨#[]⟩, .bool false, .bool false, .string ⟨#[]⟩, .string ⟨#[]⟩, .string ⟨#[]⟩, .bool false, .int .i64 0, .int .i64 0, .string ⟨#[]⟩, .string ⟨#[]⟩, .slice none 0 0] 28 (0, 0)) := (setRow_other _ w2.heap.size w.heap.size D (by omega)).trans ((Below.heap_alloc w2 _ w.heap.size hs2).trans x2)
  have hbs := b2.size
  have hd21 : D[21]? = some (.string ⟨#[]⟩) := HDD.out
  have HD21 := Lib.hid hd21
  have Y3 := Lib.hid y3
  have E3 := Lib.hid e3
  have X3 := Lib.hid x3
  have B3 := Lib.hid b3
  clear y3 e3 x3 b3 x2 b2 hd21
  go_wp2_with (first
    | (refine wpList_storeRow rfl 28 (.tmp 5) (.tmp 8) rfl w2.heap.size 28 #[.int .i64 0, .int .i64 0, .string ⟨#[]⟩, .int .i64 0, .bool false, .string ⟨#[]⟩, .int .i64 0, .int .i64 0, .int .i64 0, .int .i64 0, .bool false, .slice none 0 0, .slice none 0 0, .slice none 0 0, .slice none 0 0, .string ⟨#[]⟩, .string ⟨#[]⟩, .bool false, .bool false, .string ⟨#[]⟩, .string ⟨#[]⟩, .string ⟨#[]⟩, .bool false, .int .i64 0, .int .i64 0, .string ⟨#[]⟩, .string ⟨#[]⟩, .slice none 0 0] D (by rfl) (by rfl) Y3.out (by rw [HD2.out]; rfl) (by rw [HD2.out]; rfl) HD1.out ?_
       generalize ((w2.alloc (.cells #[.int .i64 0, .int .i64 0, .string ⟨#[]⟩, .int .i64 0, .bool false, .string ⟨#[]⟩, .int .i64 0, .int .i64 0, .int .i64 0, .int .i64 0, .bool false, .slice none 0 0, .slice none 0 0, .slice none 0 0, .slice none 0 0, .string ⟨#[]⟩, .string ⟨#[]⟩, .bool false, .bool false, .string ⟨#[]⟩, .string ⟨#[]⟩, .string ⟨#[]⟩, .bool false, .int .i64 0, .int .i64 0, .string ⟨#[]⟩, .string ⟨#[]⟩, .slice none 0 0] 28)).setRow w2.heap.size D) = w3 at E3 X3 B3 ⊢
       have q21 := frozen_of_heap E3.out 21
       have p21 := (Lib.cell_of_heap E3.out 21).trans HD21.out
       have e4 := setCell_at (i := 21) (u := (.string ⟨#[49, 46, 51, 46, 54, 46, 49, 46, 52, 46, 49, 46, 49, 52, 54, 54, 46, 50, 48, 48, 51, 54]⟩)) E3.out
       rw [HF0.out] at e4
       have E4 := Lib.hid e4
       clear e4
       have X4 := Lib.hid ((heap_setCell_other w3 ⟨w2.heap.size, 21, none⟩ w.heap.size (.string ⟨#[49, 46, 51, 46, 54, 46, 49, 46, 52, 46, 49, 46, 49, 52, 54, 54, 46, 50, 48, 48, 51, 54]⟩) (by show w.heap.size ≠ w2.heap.size; omega)).trans X3.out)
       have B4 := Lib.hid (B3.out.setCell (p := ⟨w2.heap.size, 21, none⟩) hbs (.string ⟨#[49, 46, 51, 46, 54, 46, 49, 46, 52, 46, 49, 46, 49, 52, 54, 54, 46, 50, 48, 48, 51, 54]⟩))
       clear Y3 E3 X3 B3)
    | (refine wpList_loadRow rfl 28 (.tmp 5) rfl w2.heap.size 28 F (0, 0) (by rfl) E4.out _ Tryz.underlying28 rfl (by rw [HF2.out]; rfl) ?_
       clear q21 p21
       generalize w3.setCell ⟨w2.heap.size, 21, none⟩ (.string ⟨#[49, 46, 51, 46, 54, 46, 49, 46, 52, 46, 49, 46, 49, 52, 54, 54, 46, 50, 48, 48, 51, 54]⟩) = w4 at E4 X4 B4 ⊢
       have B5 := Lib.hid (below_row B4.out (Nat.le_refl _) F)
       have T5 := Lib.hid (setRow_heap w4 w.heap.size _ F _ _ X4.out))
    | (refine wpList_storeRow rfl 28 (.tmp 4) (.tmp 10) rfl w.heap.size 28 #[.int .i64 0, .int .i64 0, .string ⟨#[]⟩, .int .i64 0, .bool false, .string ⟨#[]⟩, .int .i64 0, .int .i64 0, .int .i64 0, .int .i64 0, .bool false, .slice none 0 0, .slice none 0 0, .slice none 0 0, .slice none 0 0, .string ⟨#[]⟩, .string ⟨#[]⟩, .bool false, .bool false, .string ⟨#[]⟩, .string ⟨#[]⟩, .string ⟨#[]⟩, .bool false, .int .i64 0, .int .i64 0, .string ⟨#[]⟩, .string ⟨#[]⟩, .slice none 0 0] F (by rfl) (by rfl) X4.out (by rw [HF2.out]; rfl) (by rw [HF2.out]; rfl) HF1.out ?_))
  refine bodyPost_ret (v := .agg F) ?_ ?_ ?_
  · have hr := run_loadVar_row (P := Tryz.prog) _ w.heap.size 28 28 F (0, 0) _ T5.out (show Tryz.prog.underlying 28 = _ from Tryz.underlying28) (by rfl) (by rw [HF2.out]; rfl)
    simp [results, Act.put, Tryz.f25]
    exact hr
  · rfl
  · exact ⟨rfl, B5.out⟩
set_option maxRecDepth 100000 in
theorem RReply_any (op : Int) (w : World) : Calls Tryz.prog 27 #[.int .i64 op] w fun e w' => e = .returned (.int .i64 (replyOf op)) ∧ w' = w := by
  rcases Bool.eq_false_or_eq_true (isReqL.contains op) with hc | hc
  · have hm : op ∈ isReqL := by simpa using hc
    simp only [isReqL, List.mem_cons, List.not_mem_nil, or_false] at hm
    rcases hm with rfl | rfl | rfl | rfl | rfl | rfl | rfl | rfl | rfl | rfl
    all_goals
      go_enter Tryz.func27, Tryz.ntmps27
      go_wp2_with fail
      go_ret
      exact ⟨rfl, rfl⟩
  · have hr : replyOf op = -1 := by unfold replyOf; rw [hc]; rfl
    rw [hr]
    have hm : ¬ op ∈ isReqL := by simpa using hc
    simp only [isReqL, List.mem_cons, List.not_mem_nil, or_false, not_or] at hm
    obtain ⟨n0, n2, n3, n6, n8, n10, n12, n14, n16, n23⟩ := hm
    have g0 : (op == 0) = false := by simpa using n0
    have g3 : (op == 3) = false := by simpa using n3
    have g6 : (op == 6) = false := by simpa using n6
    have g8 : (op == 8) = false := by simpa using n8
    have g10 : (op == 10) = false := by simpa using n10
    have g12 : (op == 12) = false := by simpa using n12
    have g14 : (op == 14) = false := by simpa using n14
    have g23 : (op == 23) = false := by simpa using n23
    clear hc hr n0 n2 n3 n6 n8 n10 n12 n14 n16 n23
    go_enter Tryz.func27, Tryz.ntmps27
    go_wp2_with fail
    go_ret
    exact ⟨rfl, rfl⟩
theorem isReq_eq (op : Int) : isReqL.contains op = (decide (0 ≤ replyOf op) || op == 2 || op == 16) := by
  rcases Bool.eq_false_or_eq_true (isReqL.contains op) with hc | hc
  · have hm : op ∈ isReqL := by simpa using hc
    simp only [isReqL, List.mem_cons, List.not_mem_nil, or_false] at hm
    rcases hm with rfl | rfl | rfl | rfl | rfl | rfl | rfl | rfl | rfl | rfl <;> decide
  · have hr : replyOf op = -1 := by unfold replyOf; rw [hc]; rfl
    rw [hr, hc]
    have hm : ¬ op ∈ isReqL := by simpa using hc
    simp only [isReqL, List.mem_cons, List.not_mem_nil, or_false, not_or] at hm
    obtain ⟨n0, n2, n3, n6, n8, n10, n12, n14, n16, n23⟩ := hm
    simp [n2, n16]
set_option maxRecDepth 100000 in
theorem RIsReq_any (op : Int) (w : World) : Calls Tryz.prog 26 #[.int .i64 op] w fun e w' => e = .returned (.bool (isReqL.contains op)) ∧ w' = w := by
  have kr := RReply_any op w
  have he := isReq_eq op
  rcases Bool.eq_false_or_eq_true (isReqL.contains op) with hc | hc
  · have hm : op ∈ isReqL := by simpa using hc
    rw [hc]
    clear he
    simp only [isReqL, List.mem_cons, List.not_mem_nil, or_false] at hm
    rcases hm with rfl | rfl | rfl | rfl | rfl | rfl | rfl | rfl | rfl | rfl
    all_goals
      go_enter Tryz.func26, Tryz.ntmps26
      go_wp2_with fail
      refine Calls.mono (show Calls _ _ _ _ _ from kr) ?_
      rintro e w2 ⟨rfl, rfl⟩
      go_wp2_with fail
      go_ret
      exact ⟨rfl, rfl⟩
  · have hr : replyOf op = -1 := by unfold replyOf; rw [hc]; rfl
    rw [hr] at kr
    rw [hc]
    have hm : ¬ op ∈ isReqL := by simpa using hc
    simp only [isReqL, List.mem_cons, List.not_mem_nil, or_false, not_or] at hm
    obtain ⟨n0, n2, n3, n6, n8, n10, n12, n14, n16, n23⟩ := hm
    have g2 : (op == 2) = false := by simpa using n2
    have g16 : (op == 16) = false := by simpa using n16
    clear hc hr n0 n2 n3 n6 n8 n10 n12 n14 n16 n23 he
    go_enter Tryz.func26, Tryz.ntmps26
    go_wp2_with fail
    refine Calls.mono (show Calls _ _ _ _ _ from kr) ?_
    rintro e w2 ⟨rfl, rfl⟩
    go_wp2_with fail
    go_ret
    exact ⟨rfl, rfl⟩
end Go.Proofs.YthjaiigijbjloaaGreatDoor
