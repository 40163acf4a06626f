/- The laws MessageReplies and MessageMakes. (Written by genmsw.py.) -/
import Derived.Test.YthjaiigijbjloaaGreatDoorMsV
import Derived.Test.YthjaiigijbjloaaGreatDoorMsU
namespace Go.Proofs.YthjaiigijbjloaaGreatDoor
open Go.RowKit Go.Lib

set_option maxRecDepth 100000 in
theorem replies_none (op : Int) (w : World) (hr : replyOf op = -1) (hc : isReqL.contains op = false ∨ (isReqL.contains op = true ∧ op = 2) ∨ (isReqL.contains op = true ∧ op = 16)) :
    Calls Tryz.prog 7 #[.int .i64 op] w fun e w' => e = .returned (.bool true) ∧ Below w.heap.size w w' := by
  have k1 := Reply_any op w
  rw [hr] at k1
  have k3 := fun w => isReq_any op w
  clear hr
  rcases hc with hc | ⟨hc, rfl⟩ | ⟨hc, rfl⟩
  all_goals
    simp only [hc] at k3
    clear hc
    go_enter Tryz.func7, Tryz.ntmps7
    go_wp2_with fail
    refine Calls.mono (show Calls _ _ _ _ _ from k1) ?_
    rintro e w1 ⟨rfl, b1⟩
    have k2 := alive9_any w1
    clear k1
    go_wp2_with fail
    refine Calls.mono (show Calls _ _ _ _ _ from k2) ?_
    rintro e w2 ⟨rfl, hb⟩
    have b2 := b1.trans (hb.mono b1.size)
    clear k2 hb b1
    go_wp2_with fail
    refine Calls.mono (show Calls _ _ _ _ _ from k3 w2) ?_
    rintro e w3 ⟨rfl, hb⟩
    have b3 := b2.trans (hb.mono b2.size)
    clear hb b2
    go_wp2_with fail
    go_ret
    exact ⟨rfl, b3⟩
set_option maxRecDepth 100000 in
set_option maxHeartbeats 2000000 in
theorem replies_some (op r : Int) (w : World) (hr : replyOf op = r) (h0 : 0 ≤ r) (hc : isReqL.contains op = true) (hn : isReqL.contains r = false) (hrr : replyOf r = -1) (hres : r ∈ isResL) :
    Calls Tryz.prog 7 #[.int .i64 op] w fun e w' => e = .returned (.bool true) ∧ Below w.heap.size w w' := by
  have k1 := Reply_any op w
  rw [hr] at k1
  have kq := fun w => isReq_any op w
  have kn := fun w => isReq_any r w
  have kr := fun w => Reply_any r w
  simp only [hc] at kq
  simp only [hn] at kn
  simp only [hrr] at kr
  have kv := fun w => valid_result 1 r 0 [] [] (by omega) (by omega) hres (by omega) (by omega) w
  have km := fun w => Result_any 1 r 0 [] [] w
  obtain ⟨D, hD⟩ : ∃ D, Mg.row { id := 1, op := r, code := 0, matched := [], text := [] } = D := ⟨_, rfl⟩
  have hD1 : D.all (·.oneCell') = true := by rw [← hD]; exact row_one _ ⟨rfl, rfl, rfl, rfl, rfl⟩
  have hD2 : D.size = 28 := by rw [← hD]; rfl
  rw [hD] at kv
  simp only [hD] at km
  have g0 : decide (r < 0) = false := decide_eq_false (by omega)
  have HD1 := Lib.hid hD1
  have HD2 := Lib.hid hD2
  clear hD hD1 hD2 hr h0 hc hn hrr hres
  go_enter Tryz.func7, Tryz.ntmps7
  go_wp2_with fail
  refine Calls.mono (show Calls _ _ _ _ _ from k1) ?_
  rintro e w1 ⟨rfl, b1⟩
  clear k1
  go_wp2_with fail
  refine Calls.mono (show Calls _ _ _ _ _ from km w1) ?_
  rintro e w2 ⟨rfl, hb⟩
  have b2 := b1.trans (hb.mono b1.size)
  clear hb b1 km
  have y3 : (w2.alloc (.cells #[.int .i64 0, .int .i64 0, .string ⟨#[]⟩, .int .i64 0, .bool false, .string ⟨#[]⟩, .int .i64 0, .int .i64 0, .int .i64 0, .int .i64 0, .bool false, .slice none 0 0, .slice none 0 0, .slice none 0 0, .slice none 0 0, .string ⟨#[]⟩, .string ⟨#[]⟩, .bool false, .bool false, .string ⟨#[]⟩, .string ⟨#[]⟩, .string ⟨#[]⟩, .bool false, .int .i64 0, .int .i64 0, .string ⟨#[]⟩, .string ⟨#[]⟩, .slice none 0 0] 28)).heap[w2.heap.size]? = some (.cells #[.int .i64 0, .int .i64 0, .string ⟨#[]⟩, .int .i64 0, .bool false, .string ⟨#[]⟩, .int .i64 0, .int .i64 0, .int .i64 0, .int .i64 0, .bool false, .slice none 0 0, .slice none 0 0, .slice none 0 0, .slice none 0 0, .string ⟨#[]⟩, .string ⟨#[]⟩, .bool false, .bool false, .string ⟨#[]⟩, .string ⟨#[]⟩, .string ⟨#[]⟩, .bool false, .int .i64 0, .int .i64 0, .string ⟨#[]⟩, .string ⟨#[]⟩, .slice none 0 0] 28 (0, 0)) := alloc_at _ _ _ rfl
  have b3 : Below w.heap.size w ((w2.alloc (.cells #[.int .i64 0, .int .i64 0, .string ⟨#[]⟩, .int .i64 0, .bool false, .string ⟨#[]⟩, .int .i64 0, .int .i64 0, .int .i64 0, .int .i64 0, .bool false, .slice none 0 0, .slice none 0 0, .slice none 0 0, .slice none 0 0, .string ⟨#[]⟩, .string ⟨#[]⟩, .bool false, .bool false, .string ⟨#[]⟩, .string ⟨#[]⟩, .string ⟨#[]⟩, .bool false, .int .i64 0, .int .i64 0, .string ⟨#[]⟩, .string ⟨#[]⟩, .slice none 0 0] 28)).setRow w2.heap.size D) := below_row (b2.alloc b2.size _) b2.size D
  have e3 := setRow_heap (w2.alloc (.cells #[.int .i64 0, .int .i64 0, .string ⟨#[]⟩, .int .i64 0, .bool false, .string ⟨#[]⟩, .int .i64 0, .int .i64 0, .int .i64 0, .int .i64 0, .bool false, .slice none 0 0, .slice none 0 0, .slice none 0 0, .slice none 0 0, .string ⟨#[]⟩, .string ⟨#[]⟩, .bool false, .bool false, .string ⟨#[]⟩, .string ⟨#[]⟩, .string ⟨#[]⟩, .bool false, .int .i64 0, .int .i64 0, .string ⟨#[]⟩, .string ⟨#[]⟩, .slice none 0 0] 28)) w2.heap.size _ D _ _ y3
  have Y3 := Lib.hid y3
  have E3 := Lib.hid e3
  have B3 := Lib.hid b3
  clear y3 e3 b3 b2
  go_wp2_with (refine wpList_storeRow rfl 28 (.tmp 4) (.tmp 24) rfl w2.heap.size 28 #[.int .i64 0, .int .i64 0, .string ⟨#[]⟩, .int .i64 0, .bool false, .string ⟨#[]⟩, .int .i64 0, .int .i64 0, .int .i64 0, .int .i64 0, .bool false, .slice none 0 0, .slice none 0 0, .slice none 0 0, .slice none 0 0, .string ⟨#[]⟩, .string ⟨#[]⟩, .bool false, .bool false, .string ⟨#[]⟩, .string ⟨#[]⟩, .string ⟨#[]⟩, .bool false, .int .i64 0, .int .i64 0, .string ⟨#[]⟩, .string ⟨#[]⟩, .slice none 0 0] D (by rfl) (by rfl) Y3.out (by rw [HD2.out]; rfl) (by rw [HD2.out]; rfl) HD1.out ?_; generalize ((w2.alloc (.cells #[.int .i64 0, .int .i64 0, .string ⟨#[]⟩, .int .i64 0, .bool false, .string ⟨#[]⟩, .int .i64 0, .int .i64 0, .int .i64 0, .int .i64 0, .bool false, .slice none 0 0, .slice none 0 0, .slice none 0 0, .slice none 0 0, .string ⟨#[]⟩, .string ⟨#[]⟩, .bool false, .bool false, .string ⟨#[]⟩, .string ⟨#[]⟩, .string ⟨#[]⟩, .bool false, .int .i64 0, .int .i64 0, .string ⟨#[]⟩, .string ⟨#[]⟩, .slice none 0 0] 28)).setRow w2.heap.size D) = w3 at E3 B3 ⊢; clear Y3)
  have k2 := alive9_any w3
  refine Calls.mono (show Calls _ _ _ _ _ from k2) ?_
  rintro e w4 ⟨rfl, hb⟩
  have b4 := B3.out.trans (hb.mono B3.out.size)
  have m4 := (hb.block _ (Array.getElem?_eq_some_iff.1 E3.out).1).trans E3.out
  clear k2 hb B3 E3
  go_wp2_with fail
  refine Calls.mono (show Calls _ _ _ _ _ from kq w4) ?_
  rintro e w5 ⟨rfl, hb⟩
  have b5 := b4.trans (hb.mono b4.size)
  have m5 := (hb.block _ (Array.getElem?_eq_some_iff.1 m4).1).trans m4
  clear hb b4 m4 kq
  go_wp2_with fail
  refine Calls.mono (show Calls _ _ _ _ _ from kn w5) ?_
  rintro e w6 ⟨rfl, hb⟩
  have b6 := b5.trans (hb.mono b5.size)
  have m6 := (hb.block _ (Array.getElem?_eq_some_iff.1 m5).1).trans m5
  clear hb b5 m5 kn
  go_wp2_with fail
  refine Calls.mono (show Calls _ _ _ _ _ from kr w6) ?_
  rintro e w7 ⟨rfl, hb⟩
  have b7 := b6.trans (hb.mono b6.size)
  have m7 := (hb.block _ (Array.getElem?_eq_some_iff.1 m6).1).trans m6
  clear hb b6 m6 kr
  go_wp2_with (refine wpList_loadRowG (by rfl) 28 (.tmp 4) rfl w2.heap.size 28 _ (0, 0) (by rfl) m7 _ Tryz.underlying28 rfl (by rw [HD2.out]; rfl) ?_)
  refine Calls.mono (show Calls _ _ _ _ _ from kv w7) ?_
  rintro e w8 ⟨rfl, hb⟩
  have b8 := b7.trans (hb.mono b7.size)
  clear hb b7 m7 kv
  go_wp2_with fail
  go_ret
  exact ⟨rfl, b8⟩
theorem MessageReplies_any (op : Int) (w : World) (_ : Env w) : Calls Tryz.prog 7 #[.int .i64 op] w fun e w' => e = .returned (.bool true) ∧ Below w.heap.size w w' := by
  rcases Bool.eq_false_or_eq_true (isReqL.contains op) with hc | hc
  · have hm : op ∈ isReqL := by simpa using hc
    simp only [isReqL, List.mem_cons, List.not_mem_nil, or_false] at hm
    rcases hm with rfl | rfl | rfl | rfl | rfl | rfl | rfl | rfl | rfl | rfl
    · exact replies_some 0 1 w rfl (by omega) rfl rfl rfl (by decide)
    · exact replies_none 2 w rfl (.inr (.inl ⟨rfl, rfl⟩))
    · exact replies_some 3 5 w rfl (by omega) rfl rfl rfl (by decide)
    · exact replies_some 6 7 w rfl (by omega) rfl rfl rfl (by decide)
    · exact replies_some 8 9 w rfl (by omega) rfl rfl rfl (by decide)
    · exact replies_some 10 11 w rfl (by omega) rfl rfl rfl (by decide)
    · exact replies_some 12 13 w rfl (by omega) rfl rfl rfl (by decide)
    · exact replies_some 14 15 w rfl (by omega) rfl rfl rfl (by decide)
    · exact replies_none 16 w rfl (.inr (.inr ⟨rfl, rfl⟩))
    · exact replies_some 23 24 w rfl (by omega) rfl rfl rfl (by decide)
  · exact replies_none op w (by unfold replyOf; rw [hc]; rfl) (.inl hc)
set_option maxRecDepth 100000 in
set_option maxHeartbeats 4000000 in
theorem MessageMakes_any (id op code : Int) (matched text : List UInt8) (w : World) (_ : matched.length ≤ 140737488351232) (_ : text.length ≤ 140737488351232) (_ : Env w) :
    Calls Tryz.prog 8 #[.int .i64 id, .int .i64 op, .int .i64 code, .string ⟨matched.toArray⟩, .string ⟨text.toArray⟩] w fun e w' => e = .returned (.bool true) ∧ Below w.heap.size w w' := by
  have kq := fun w => isReq_any op w
  have kQ := fun w => RIsReq_any op w
  have kr := fun w => Reply_any op w
  have kR := fun w => RReply_any op w
  obtain ⟨q, hq⟩ : ∃ q, isReqL.contains op = q := ⟨_, rfl⟩
  obtain ⟨r, hr⟩ : ∃ r, replyOf op = r := ⟨_, rfl⟩
  simp only [hq] at kq kQ
  simp only [hr] at kr kR
  clear hq hr
  have km := Result_any id op code matched text w
  have kn := fun w => Notice_any code text w
  obtain ⟨D, hD⟩ : ∃ D, Mg.row { id := id, op := op, code := code, matched := matched, text := text } = D := ⟨_, rfl⟩
  have hD1 : D.all (·.oneCell') = true := by rw [← hD]; exact row_one _ ⟨rfl, rfl, rfl, rfl, rfl⟩
  have hD2 : D.size = 28 := by rw [← hD]; rfl
  have kS : ∀ w, Calls Tryz.prog 18 #[.agg D, .agg #[.int .i64 id, .int .i64 op, .string ⟨#[]⟩, .int .i64 0, .bool false, .string ⟨#[]⟩, .int .i64 0, .int .i64 0, .int .i64 0, .int .i64 0, .bool false, .slice none 0 0, .slice none 0 0, .slice none 0 0, .slice none 0 0, .string ⟨#[]⟩, .string ⟨#[]⟩, .bool false, .bool false, .string ⟨#[]⟩, .string ⟨#[]⟩, .string ⟨#[]⟩, .bool false, .int .i64 0, .int .i64 code, .string ⟨matched.toArray⟩, .string ⟨text.toArray⟩, .slice none 0 0]] w fun e w' => e = .returned (.bool true) ∧ Below w.heap.size w w' := by
    intro w
    rw [← hD]
    exact SameFlat id op [] 0 false [] 0 0 0 0 false [] [] false false [] [] [] false 0 code matched text w
  obtain ⟨F, hF⟩ : ∃ F, Mg.row { op := 24, code := code, text := text, oid := noticeOid } = F := ⟨_, rfl⟩
  have hF1 : F.all (·.oneCell') = true := by rw [← hF]; exact row_one _ ⟨rfl, rfl, rfl, rfl, rfl⟩
  have hF2 : F.size = 28 := by rw [← hF]; rfl
  have kT : ∀ w, Calls Tryz.prog 18 #[.agg F, .agg #[.int .i64 0, .int .i64 24, .string ⟨#[]⟩, .int .i64 0, .bool false, .string ⟨#[]⟩, .int .i64 0, .int .i64 0, .int .i64 0, .int .i64 0, .bool false, .slice none 0 0, .slice none 0 0, .slice none 0 0, .slice none 0 0, .string ⟨#[]⟩, .string ⟨#[]⟩, .bool false, .bool false, .string ⟨#[]⟩, .string ⟨#[]⟩, .string ⟨#[49, 46, 51, 46, 54, 46, 49, 46, 52, 46, 49, 46, 49, 52, 54, 54, 46, 50, 48, 48, 51, 54]⟩, .bool false, .int .i64 0, .int .i64 code, .string ⟨#[]⟩, .string ⟨text.toArray⟩, .slice none 0 0]] w fun e w' => e = .returned (.bool true) ∧ Below w.heap.size w w' := by
    intro w
    rw [← hF]
    exact SameFlat 0 24 [] 0 false [] 0 0 0 0 false [] [] false false [] [] noticeOid false 0 code [] text w
  rw [hD] at km
  simp only [hF] at kn
  have HD1 := Lib.hid hD1
  have HD2 := Lib.hid hD2
  have HF1 := Lib.hid hF1
  have HF2 := Lib.hid hF2
  have KS := Lib.hid kS
  have KT := Lib.hid kT
  clear hD hD1 hD2 hF hF1 hF2 kS kT
  go_enter Tryz.func8, Tryz.ntmps8
  go_wp2_with fail
  refine Calls.mono (show Calls _ _ _ _ _ from km) ?_
  rintro e w2 ⟨rfl, b2⟩
  clear km
  have y3 : (w2.alloc (.cells #[.int .i64 0, .int .i64 0, .string ⟨#[]⟩, .int .i64 0, .bool false, .string ⟨#[]⟩, .int .i64 0, .int .i64 0, .int .i64 0, .int .i64 0, .bool false, .slice none 0 0, .slice none 0 0, .slice none 0 0, .slice none 0 0, .string ⟨#[]⟩, .string ⟨#[]⟩, .bool false, .bool false, .string ⟨#[]⟩, .string ⟨#[]⟩, .string ⟨#[]⟩, .bool false, .int .i64 0, .int .i64 0, .string ⟨#[]⟩, .string ⟨#[]⟩, .slice none 0 0] 28)).heap[w2.heap.size]? = some (.cells #[.int .i64 0, .int .i64 0, .string ⟨#[]⟩, .int .i64 0, .bool false, .string ⟨#[]⟩, .int .i64 0, .int .i64 0, .int .i64 0, .int .i64 0, .bool false, .slice none 0 0, .slice none 0 0, .slice none 0 0, .slice none 0 0, .string ⟨#[]⟩, .string ⟨#[]⟩, .bool false, .bool false, .string ⟨#[]⟩, .string ⟨#[]⟩, .string ⟨#[]⟩, .bool false, .int .i64 0, .int .i64 0, .string ⟨#[]⟩, .string ⟨#[]⟩, .slice none 0 0] 28 (0, 0)) := alloc_at _ _ _ rfl
  have b3 : Below w.heap.size w ((w2.alloc (.cells #[.int .i64 0, .int .i64 0, .string ⟨#[]⟩, .int .i64 0, .bool false, .string ⟨#[]⟩, .int .i64 0, .int .i64 0, .int .i64 0, .int .i64 0, .bool false, .slice none 0 0, .slice none 0 0, .slice none 0 0, .slice none 0 0, .string ⟨#[]⟩, .string ⟨#[]⟩, .bool false, .bool false, .string ⟨#[]⟩, .string ⟨#[]⟩, .string ⟨#[]⟩, .bool false, .int .i64 0, .int .i64 0, .string ⟨#[]⟩, .string ⟨#[]⟩, .slice none 0 0] 28)).setRow w2.heap.size D) := below_row (b2.alloc b2.size _) b2.size D
  have e3 := setRow_heap (w2.alloc (.cells #[.int .i64 0, .int .i64 0, .string ⟨#[]⟩, .int .i64 0, .bool false, .string ⟨#[]⟩, .int .i64 0, .int .i64 0, .int .i64 0, .int .i64 0, .bool false, .slice none 0 0, .slice none 0 0, .slice none 0 0, .slice none 0 0, .string ⟨#[]⟩, .string ⟨#[]⟩, .bool false, .bool false, .string ⟨#[]⟩, .string ⟨#[]⟩, .string ⟨#[]⟩, .bool false, .int .i64 0, .int .i64 0, .string ⟨#[]⟩, .string ⟨#[]⟩, .slice none 0 0] 28)) w2.heap.size _ D _ _ y3
  have Y3 := Lib.hid y3
  have E3 := Lib.hid e3
  have B3 := Lib.hid b3
  clear y3 e3 b3 b2
  go_wp2_with (refine wpList_storeRow rfl 28 (.tmp 11) (.tmp 18) rfl w2.heap.size 28 #[.int .i64 0, .int .i64 0, .string ⟨#[]⟩, .int .i64 0, .bool false, .string ⟨#[]⟩, .int .i64 0, .int .i64 0, .int .i64 0, .int .i64 0, .bool false, .slice none 0 0, .slice none 0 0, .slice none 0 0, .slice none 0 0, .string ⟨#[]⟩, .string ⟨#[]⟩, .bool false, .bool false, .string ⟨#[]⟩, .string ⟨#[]⟩, .string ⟨#[]⟩, .bool false, .int .i64 0, .int .i64 0, .string ⟨#[]⟩, .string ⟨#[]⟩, .slice none 0 0] D (by rfl) (by rfl) Y3.out (by rw [HD2.out]; rfl) (by rw [HD2.out]; rfl) HD1.out ?_; generalize ((w2.alloc (.cells #[.int .i64 0, .int .i64 0, .string ⟨#[]⟩, .int .i64 0, .bool false, .string ⟨#[]⟩, .int .i64 0, .int .i64 0, .int .i64 0, .int .i64 0, .bool false, .slice none 0 0, .slice none 0 0, .slice none 0 0, .slice none 0 0, .string ⟨#[]⟩, .string ⟨#[]⟩, .bool false, .bool false, .string ⟨#[]⟩, .string ⟨#[]⟩, .string ⟨#[]⟩, .bool false, .int .i64 0, .int .i64 0, .string ⟨#[]⟩, .string ⟨#[]⟩, .slice none 0 0] 28)).setRow w2.heap.size D) = w3 at E3 B3 ⊢; clear Y3)
  refine Calls.mono (show Calls _ _ _ _ _ from kn w3) ?_
  rintro e w4 ⟨rfl, hb⟩
  have b4 := B3.out.trans (hb.mono B3.out.size)
  have m4 := (hb.block _ (Array.getElem?_eq_some_iff.1 E3.out).1).trans E3.out
  clear kn hb B3 E3
  have y5 : (w4.alloc (.cells #[.int .i64 0, .int .i64 0, .string ⟨#[]⟩, .int .i64 0, .bool false, .string ⟨#[]⟩, .int .i64 0, .int .i64 0, .int .i64 0, .int .i64 0, .bool false, .slice none 0 0, .slice none 0 0, .slice none 0 0, .slice none 0 0, .string ⟨#[]⟩, .string ⟨#[]⟩, .bool false, .bool false, .string ⟨#[]⟩, .string ⟨#[]⟩, .string ⟨#[]⟩, .bool false, .int .i64 0, .int .i64 0, .string ⟨#[]⟩, .string ⟨#[]⟩, .slice none 0 0] 28)).heap[w4.heap.size]? = some (.cells #[.int .i64 0, .int .i64 0, .string ⟨#[]⟩, .int .i64 0, .bool false, .string ⟨#[]⟩, .int .i64 0, .int .i64 0, .int .i64 0, .int .i64 0, .bool false, .slice none 0 0, .slice none 0 0, .slice none 0 0, .slice none 0 0, .string ⟨#[]⟩, .string ⟨#[]⟩, .bool false, .bool false, .string ⟨#[]⟩, .string ⟨#[]⟩, .string ⟨#[]⟩, .bool false, .int .i64 0, .int .i64 0, .string ⟨#[]⟩, .string ⟨#[]⟩, .slice none 0 0] 28 (0, 0)) := alloc_at _ _ _ rfl
  have b5 : Below w.heap.size w ((w4.alloc (.cells #[.int .i64 0, .int .i64 0, .string ⟨#[]⟩, .int .i64 0, .bool false, .string ⟨#[]⟩, .int .i64 0, .int .i64 0, .int .i64 0, .int .i64 0, .bool false, .slice none 0 0, .slice none 0 0, .slice none 0 0, .slice none 0 0, .string ⟨#[]⟩, .string ⟨#[]⟩, .bool false, .bool false, .string ⟨#[]⟩, .string ⟨#[]⟩, .string ⟨#[]⟩, .bool false, .int .i64 0, .int .i64 0, .string ⟨#[]⟩, .string ⟨#[]⟩, .slice none 0 0] 28)).setRow w4.heap.size F) := below_row (b4.alloc b4.size _) b4.size F
  have e5 := setRow_heap (w4.alloc (.cells #[.int .i64 0, .int .i64 0, .string ⟨#[]⟩, .int .i64 0, .bool false, .string ⟨#[]⟩, .int .i64 0, .int .i64 0, .int .i64 0, .int .i64 0, .bool false, .slice none 0 0, .slice none 0 0, .slice none 0 0, .slice none 0 0, .string ⟨#[]⟩, .string ⟨#[]⟩, .bool false, .bool false, .string ⟨#[]⟩, .string ⟨#[]⟩, .string ⟨#[]⟩, .bool false, .int .i64 0, .int .i64 0, .string ⟨#[]⟩, .string ⟨#[]⟩, .slice none 0 0] 28)) w4.heap.size _ F _ _ y5
  have hl4 := (Array.getElem?_eq_some_iff.1 m4).1
  have m5 : ((w4.alloc (.cells #[.int .i64 0, .int .i64 0, .string ⟨#[]⟩, .int .i64 0, .bool false, .string ⟨#[]⟩, .int .i64 0, .int .i64 0, .int .i64 0, .int .i64 0, .bool false, .slice none 0 0, .slice none 0 0, .slice none 0 0, .slice none 0 0, .string ⟨#[]⟩, .string ⟨#[]⟩, .bool false, .bool false, .string ⟨#[]⟩, .string ⟨#[]⟩, .string ⟨#[]⟩, .bool false, .int .i64 0, .int .i64 0, .string ⟨#[]⟩, .string ⟨#[]⟩, .slice none 0 0] 28)).setRow w4.heap.size F).heap[w2.heap.size]? = some (.cells D 28 (0, 0)) := (setRow_other _ w4.heap.size w2.heap.size F (by omega)).trans ((Below.heap_alloc w4 _ w2.heap.size hl4).trans m4)
  have Y5 := Lib.hid y5
  have E5 := Lib.hid e5
  have B5 := Lib.hid b5
  have M5 := Lib.hid m5
  clear y5 e5 b5 b4 m4 m5
  go_wp2_with (refine wpList_storeRow rfl 28 (.tmp 12) (.tmp 21) rfl w4.heap.size 28 #[.int .i64 0, .int .i64 0, .string ⟨#[]⟩, .int .i64 0, .bool false, .string ⟨#[]⟩, .int .i64 0, .int .i64 0, .int .i64 0, .int .i64 0, .bool false, .slice none 0 0, .slice none 0 0, .slice none 0 0, .slice none 0 0, .string ⟨#[]⟩, .string ⟨#[]⟩, .bool false, .bool false, .string ⟨#[]⟩, .string ⟨#[]⟩, .string ⟨#[]⟩, .bool false, .int .i64 0, .int .i64 0, .string ⟨#[]⟩, .string ⟨#[]⟩, .slice none 0 0] F (by rfl) (by rfl) Y5.out (by rw [HF2.out]; rfl) (by rw [HF2.out]; rfl) HF1.out ?_; generalize ((w4.alloc (.cells #[.int .i64 0, .int .i64 0, .string ⟨#[]⟩, .int .i64 0, .bool false, .string ⟨#[]⟩, .int .i64 0, .int .i64 0, .int .i64 0, .int .i64 0, .bool false, .slice none 0 0, .slice none 0 0, .slice none 0 0, .slice none 0 0, .string ⟨#[]⟩, .string ⟨#[]⟩, .bool false, .bool false, .string ⟨#[]⟩, .string ⟨#[]⟩, .string ⟨#[]⟩, .bool false, .int .i64 0, .int .i64 0, .string ⟨#[]⟩, .string ⟨#[]⟩, .slice none 0 0] 28)).setRow w4.heap.size F) = w5 at E5 B5 M5 ⊢; clear Y5)
  have k2 := alive9_any w5
  refine Calls.mono (show Calls _ _ _ _ _ from k2) ?_
  rintro e w6 ⟨rfl, hb⟩
  have b6 := B5.out.trans (hb.mono B5.out.size)
  have m6 := (hb.block _ (Array.getElem?_eq_some_iff.1 M5.out).1).trans M5.out
  have e6 := (hb.block _ (Array.getElem?_eq_some_iff.1 E5.out).1).trans E5.out
  clear k2 hb B5 E5 M5
  go_wp2_with fail
  refine Calls.mono (show Calls _ _ _ _ _ from kq w6) ?_
  rintro e w7 ⟨rfl, hb⟩
  have b7 := b6.trans (hb.mono b6.size)
  have m7 := (hb.block _ (Array.getElem?_eq_some_iff.1 m6).1).trans m6
  have e7 := (hb.block _ (Array.getElem?_eq_some_iff.1 e6).1).trans e6
  clear hb b6 m6 e6 kq
  go_wp2_with fail
  refine Calls.mono (show Calls _ _ _ _ _ from kQ w7) ?_
  rintro e w8 ⟨rfl, hw⟩
  rw [hw]
  clear kQ hw w8
  go_wp2_with fail
  refine Calls.mono (show Calls _ _ _ _ _ from kr w7) ?_
  rintro e w8 ⟨rfl, hb⟩
  have b8 := b7.trans (hb.mono b7.size)
  have m8 := (hb.block _ (Array.getElem?_eq_some_iff.1 m7).1).trans m7
  have e8 := (hb.block _ (Array.getElem?_eq_some_iff.1 e7).1).trans e7
  clear hb b7 m7 e7 kr
  go_wp2_with fail
  refine Calls.mono (show Calls _ _ _ _ _ from kR w8) ?_
  rintro e w9 ⟨rfl, hw⟩
  rw [hw]
  clear kR hw w9
  go_wp2_with (refine wpList_loadRowG (by rfl) 28 (.tmp 11) rfl w2.heap.size 28 _ (0, 0) (by rfl) m8 _ Tryz.underlying28 rfl (by rw [HD2.out]; rfl) ?_)
  refine Calls.mono (show Calls _ _ _ _ _ from KS.out w8) ?_
  rintro e w9 ⟨rfl, hb⟩
  have b9 := b8.trans (hb.mono b8.size)
  have e9 := (hb.block _ (Array.getElem?_eq_some_iff.1 e8).1).trans e8
  clear hb b8 m8 e8 KS
  go_wp2_with (refine wpList_loadRowG (by rfl) 28 (.tmp 12) rfl w4.heap.size 28 _ (0, 0) (by rfl) e9 _ Tryz.underlying28 rfl (by rw [HF2.out]; rfl) ?_)
  refine Calls.mono (show Calls _ _ _ _ _ from KT.out w9) ?_
  rintro e w10 ⟨rfl, hb⟩
  have b10 := b9.trans (hb.mono b9.size)
  clear hb b9 e9 KT
  go_wp2_with fail
  go_ret
  exact ⟨rfl, b10⟩
end Go.Proofs.YthjaiigijbjloaaGreatDoor
