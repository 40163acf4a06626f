/- message.Valid at some messages; message.Read at a delete. (Written by genmsg.py.) -/
import Derived.Test.YtaojidcneocelaaGreatDoorMsL
import Derived.Test.YtaojidcneocelaaGreatDoorMsE
import Derived.Test.YtaojidcneocelaaGreatDoorMsH
namespace Go.Proofs.YtaojidcneocelaaGreatDoor
open Go.RowKit Go.Lib

theorem msgD_row (n op : Int) (dn : List UInt8) : msgD n op dn = Mg.row { id := n, op := op, dn := dn } := rfl
theorem valid_delete (n : Int) (dn : List UInt8) (h0 : 0 ≤ n) (h1 : n ≤ 2147483647) (w : World) :
    Calls Tryz.prog 41 #[.agg (msgD n 10 dn)] w fun e w' => e = .returned (.bool true) ∧ Below w.heap.size w w' :=
  valid_of { id := n, op := 10, dn := dn } (bare_delete n dn) h0 h1 rfl rfl rfl rfl rfl w
theorem valid_bind (n v : Int) (dn secret : List UInt8) (sasl : Bool) (h0 : 0 ≤ n) (h1 : n ≤ 2147483647) (h2 : 1 ≤ v) (h3 : v ≤ 127) (w : World) :
    Calls Tryz.prog 41 #[.agg (Mg.row { id := n, op := 0, ver := v, dn := dn, sasl := sasl, secret := secret })] w fun e w' => e = .returned (.bool true) ∧ Below w.heap.size w w' :=
  valid_of { id := n, op := 0, ver := v, dn := dn, sasl := sasl, secret := secret } (fun w => bare_bind n v dn secret sasl w h2 h3) h0 h1 rfl rfl rfl rfl rfl w
theorem valid_result (n r code : Int) (matched text : List UInt8) (h0 : 0 ≤ n) (h1 : n ≤ 2147483647) (hr : r ∈ isResL) (h2 : 0 ≤ code) (h3 : code ≤ 2147483647) (w : World) :
    Calls Tryz.prog 41 #[.agg (Mg.row { id := n, op := r, code := code, matched := matched, text := text })] w fun e w' => e = .returned (.bool true) ∧ Below w.heap.size w w' := by
  by_cases hn : r = 24
  · subst hn
    exact valid_of { id := n, op := 24, code := code, matched := matched, text := text } (fun w => bare_extended n code matched text w h2 h3) h0 h1 rfl rfl rfl rfl rfl w
  · exact valid_of { id := n, op := r, code := code, matched := matched, text := text } (fun w => bare_result n r code matched text w hr hn h2 h3) h0 h1 rfl rfl rfl rfl rfl w
set_option maxRecDepth 100000 in
set_option maxHeartbeats 4000000 in
theorem Read_delete (b : List UInt8) (n : Nat) (hn : n ≤ 127) (dn : List UInt8) (hd : dn.length ≤ 1000000) (hr : Rd b (delE n dn) []) (w : World) :
    Calls Tryz.prog 30 #[.string ⟨b.toArray⟩] w fun e w' => e = .returned (.tuple #[.agg (msgD n 10 dn), .int .i64 0]) ∧ Below w.heap.size w w' := by
  have hmf : ∀ (fn : Fn) (first cap : Array Value) (w : World), (Instr.makeFunc fn first cap).run Tryz.prog w = .ok (.func fn first cap) w := fun _ _ _ _ => rfl
  have hdep : depE (delE n dn) ≤ 20 := by simp [delE, depE, depL]
  have kv := fun w => Lib.hid (valid_delete n dn (by omega) (by omega) w)
  have kd := fun A M hAM u w h1 h2 h3 => reads_delete n hn dn hd A M hAM u w h1 h2 h3
  obtain ⟨F, hF⟩ : ∃ F, msgD (n : Int) 10 dn = F := ⟨_, rfl⟩
  rw [hF] at kv kd ⊢
  have KD := Lib.hid kd
  clear kd
  have hF1 : F.all (·.oneCell') = true := by rw [← hF]; simp [msgD, Value.oneCell']
  have hF2 : F.size = 28 := by rw [← hF]; rfl
  have HF1 := Lib.hid hF1
  have HF2 := Lib.hid hF2
  clear hF hF1 hF2
  have t1 : (w.alloc (.cells #[.int .i64 0, .int .i64 0, .string ⟨#[]⟩, .int .i64 0, .bool false, .string ⟨#[]⟩, .int .i64 0, .int .i64 0, .int .i64 0, .int .i64 0, .bool false, .slice none 0 0, .slice none 0 0, .slice none 0 0, .slice none 0 0, .string ⟨#[]⟩, .string ⟨#[]⟩, .bool false, .bool false, .string ⟨#[]⟩, .string ⟨#[]⟩, .string ⟨#[]⟩, .bool false, .int .i64 0, .int .i64 0, .string ⟨#[]⟩, .string ⟨#[]⟩, .slice none 0 0] 32)).heap[w.heap.size]? = some (.cells (msgD 0 0 []) 32 (0, 0)) := alloc_at _ _ _ rfl
  have b1 : Below w.heap.size w (w.alloc (.cells #[.int .i64 0, .int .i64 0, .string ⟨#[]⟩, .int .i64 0, .bool false, .string ⟨#[]⟩, .int .i64 0, .int .i64 0, .int .i64 0, .int .i64 0, .bool false, .slice none 0 0, .slice none 0 0, .slice none 0 0, .slice none 0 0, .string ⟨#[]⟩, .string ⟨#[]⟩, .bool false, .bool false, .string ⟨#[]⟩, .string ⟨#[]⟩, .string ⟨#[]⟩, .bool false, .int .i64 0, .int .i64 0, .string ⟨#[]⟩, .string ⟨#[]⟩, .slice none 0 0] 32)) := (Below.refl _ _).alloc (Nat.le_refl _) _
  have kr := Read_short b (delE n dn) hr hdep (w.alloc (.cells #[.int .i64 0, .int .i64 0, .string ⟨#[]⟩, .int .i64 0, .bool false, .string ⟨#[]⟩, .int .i64 0, .int .i64 0, .int .i64 0, .int .i64 0, .bool false, .slice none 0 0, .slice none 0 0, .slice none 0 0, .slice none 0 0, .string ⟨#[]⟩, .string ⟨#[]⟩, .bool false, .bool false, .string ⟨#[]⟩, .string ⟨#[]⟩, .string ⟨#[]⟩, .bool false, .int .i64 0, .int .i64 0, .string ⟨#[]⟩, .string ⟨#[]⟩, .slice none 0 0] 32))
  clear hr hdep
  go_enter Tryz.func30, Tryz.ntmps30
  go_wp2_with fail
  generalize w.alloc (.cells #[.int .i64 0, .int .i64 0, .string ⟨#[]⟩, .int .i64 0, .bool false, .string ⟨#[]⟩, .int .i64 0, .int .i64 0, .int .i64 0, .int .i64 0, .bool false, .slice none 0 0, .slice none 0 0, .slice none 0 0, .slice none 0 0, .string ⟨#[]⟩, .string ⟨#[]⟩, .bool false, .bool false, .string ⟨#[]⟩, .string ⟨#[]⟩, .string ⟨#[]⟩, .bool false, .int .i64 0, .int .i64 0, .string ⟨#[]⟩, .string ⟨#[]⟩, .slice none 0 0] 32) = w1 at t1 b1 kr ⊢
  refine Calls.mono (show Calls _ _ _ _ _ from kr) ?_
  rintro e w2 ⟨⟨u, rfl, hu⟩, hb2⟩
  have t2 := (hb2.block _ (Array.getElem?_eq_some_iff.1 t1).1).trans t1
  have b2 := b1.trans (hb2.mono b1.size)
  have hs1 := b1.size
  clear kr hb2 t1 b1
  obtain ⟨a, c, hsl⟩ := hu.shape
  subst hsl
  obtain ⟨E, hE⟩ : ∃ E, elA (delE n dn) (.slice a (delE n dn).kids.length c) = E := ⟨_, rfl⟩
  have hE1 : E.all (·.oneCell') = true := by rw [← hE]; simp [elA, Value.oneCell']
  have hE2 : E.size = 5 := by rw [← hE]; rfl
  rw [hE]
  have x3 : (w2.alloc (.cells #[.int .i64 0, .int .i64 0, .bool false, .string ⟨#[]⟩, .slice none 0 0] 76)).heap[w2.heap.size]? = some (.cells #[.int .i64 0, .int .i64 0, .bool false, .string ⟨#[]⟩, .slice none 0 0] 76 (0, 0)) := alloc_at _ _ _ rfl
  have g3 : Below w2.heap.size w2 ((w2.alloc (.cells #[.int .i64 0, .int .i64 0, .bool false, .string ⟨#[]⟩, .slice none 0 0] 76)).setRow w2.heap.size E) := below_row ((Below.refl _ _).alloc (Nat.le_refl _) _) (Nat.le_refl _) E
  have e3 := setRow_heap (w2.alloc (.cells #[.int .i64 0, .int .i64 0, .bool false, .string ⟨#[]⟩, .slice none 0 0] 76)) w2.heap.size _ E _ _ x3
  have HE := Lib.hid hE
  have HE1 := Lib.hid hE1
  have HE2 := Lib.hid hE2
  have X3 := Lib.hid x3
  have hs2 := b2.size
  clear hE hE1 hE2 x3
  have u3 := Lib.hid (hu.below g3)
  have t3 := (g3.block _ (Array.getElem?_eq_some_iff.1 t2).1).trans t2
  have b3 := b2.trans (g3.mono b2.size)
  have ht := (Array.getElem?_eq_some_iff.1 t2).1
  clear t2 b2 hu g3
  go_wp2_with (refine wpList_storeRow rfl 76 (.tmp 4) (.tmp 10) rfl w2.heap.size 76 _ E (by rfl) (by rfl) X3.out (by rw [HE2.out]; rfl) (by rw [HE2.out]; rfl) HE1.out ?_)
  have m4 : (((w2.alloc (.cells #[.int .i64 0, .int .i64 0, .bool false, .string ⟨#[]⟩, .slice none 0 0] 76)).setRow w2.heap.size E).alloc (.cells #[.int .i64 0, .int .i64 0, .string ⟨#[]⟩, .int .i64 0, .bool false, .string ⟨#[]⟩, .int .i64 0, .int .i64 0, .int .i64 0, .int .i64 0, .bool false, .slice none 0 0, .slice none 0 0, .slice none 0 0, .slice none 0 0, .string ⟨#[]⟩, .string ⟨#[]⟩, .bool false, .bool false, .string ⟨#[]⟩, .string ⟨#[]⟩, .string ⟨#[]⟩, .bool false, .int .i64 0, .int .i64 0, .string ⟨#[]⟩, .string ⟨#[]⟩, .slice none 0 0] 32)).heap[w2.heap.size + 1]? = some (.cells (msgD 0 0 []) 32 (0, 0)) := alloc_at _ _ _ (by simp [World.setRow])
  have g4 := (Below.refl ((w2.alloc (.cells #[.int .i64 0, .int .i64 0, .bool false, .string ⟨#[]⟩, .slice none 0 0] 76)).setRow w2.heap.size E).heap.size ((w2.alloc (.cells #[.int .i64 0, .int .i64 0, .bool false, .string ⟨#[]⟩, .slice none 0 0] 76)).setRow w2.heap.size E)).alloc (Nat.le_refl _) (.cells #[.int .i64 0, .int .i64 0, .string ⟨#[]⟩, .int .i64 0, .bool false, .string ⟨#[]⟩, .int .i64 0, .int .i64 0, .int .i64 0, .int .i64 0, .bool false, .slice none 0 0, .slice none 0 0, .slice none 0 0, .slice none 0 0, .string ⟨#[]⟩, .string ⟨#[]⟩, .bool false, .bool false, .string ⟨#[]⟩, .string ⟨#[]⟩, .string ⟨#[]⟩, .bool false, .int .i64 0, .int .i64 0, .string ⟨#[]⟩, .string ⟨#[]⟩, .slice none 0 0] 32)
  have b4 := b3.trans (g4.mono b3.size)
  have e4 := (g4.block _ (Array.getElem?_eq_some_iff.1 e3).1).trans e3
  have t4 := (g4.block _ (Array.getElem?_eq_some_iff.1 t3).1).trans t3
  have u4 := u3.out.below g4
  clear b3 e3 t3 u3 X3 g4
  generalize ((w2.alloc (.cells #[.int .i64 0, .int .i64 0, .bool false, .string ⟨#[]⟩, .slice none 0 0] 76)).setRow w2.heap.size E).alloc (.cells #[.int .i64 0, .int .i64 0, .string ⟨#[]⟩, .int .i64 0, .bool false, .string ⟨#[]⟩, .int .i64 0, .int .i64 0, .int .i64 0, .int .i64 0, .bool false, .slice none 0 0, .slice none 0 0, .slice none 0 0, .slice none 0 0, .string ⟨#[]⟩, .string ⟨#[]⟩, .bool false, .bool false, .string ⟨#[]⟩, .string ⟨#[]⟩, .string ⟨#[]⟩, .bool false, .int .i64 0, .int .i64 0, .string ⟨#[]⟩, .string ⟨#[]⟩, .slice none 0 0] 32) = w4 at m4 b4 e4 t4 u4 ⊢
  rw [← HE.out] at e4
  have kk := KD.out w2.heap.size (w2.heap.size + 1) (by omega) (.slice a (delE n dn).kids.length c) w4 e4 m4 (u4.kept fun g hg hl => ⟨rfl, trivial⟩)
  refine Calls.mono (show Calls _ _ _ _ _ from kk) ?_
  rintro e w5 ⟨rfl, m5, hR5⟩
  have t5 := (hR5.block _ (Array.getElem?_eq_some_iff.1 t4).1 (by omega)).trans t4
  have hm4 := (Array.getElem?_eq_some_iff.1 m4).1
  have b5 : Below w.heap.size w w5 := b4.trans ((hR5.mono b4.size).below (by omega))
  clear kk m4 b4 e4 t4 u4 hR5
  have kw := (kv w5).out
  go_wp2_with (refine wpList_loadRowG (by rfl) 32 (.tmp 6) rfl (w2.heap.size + 1) 32 _ (0, 0) (by rfl) m5 _ Tryz.underlying32 rfl (by rw [HF2.out]; rfl) ?_)
  refine Calls.mono (show Calls _ _ _ _ _ from kw) ?_
  rintro e w6 ⟨rfl, hb6⟩
  have t6 := (hb6.block _ (Array.getElem?_eq_some_iff.1 t5).1).trans t5
  have m6 := (hb6.block _ (Array.getElem?_eq_some_iff.1 m5).1).trans m5
  have b6 := b5.trans (hb6.mono b5.size)
  clear kw hb6 t5 m5 b5
  have b7 := below_row b6 (g := w.heap.size) (Nat.le_refl _) F
  have t7 := setRow_heap w6 w.heap.size _ F _ _ t6
  go_wp2_with (first
    | (refine wpList_loadRow rfl 32 (.tmp 6) rfl (w2.heap.size + 1) 32 _ (0, 0) (by rfl) m6 _ Tryz.underlying32 rfl (by rw [HF2.out]; rfl) ?_)
    | (refine wpList_storeRow rfl 32 (.tmp 2) (.tmp 25) rfl w.heap.size 32 _ F (by rfl) (by rfl) t6 (by rw [HF2.out]; rfl) (by rw [HF2.out]; rfl) HF1.out ?_))
  generalize w6.setRow w.heap.size F = w7 at b7 t7 ⊢
  refine bodyPost_ret (v := .tuple #[.agg F, .int .i64 0]) ?_ rfl ⟨rfl, b7⟩
  have hr := run_loadVar_row (P := Tryz.prog) w7 w.heap.size 32 32 F (0, 0) _ t7 (show Tryz.prog.underlying 32 = _ from Tryz.underlying32) (by rfl) (by rw [HF2.out]; rfl)
  simp [results, Tryz.f30]
  show ((Sem.run Tryz.prog (loadVar 32 ⟨w.heap.size, 0, none⟩) w7).andThen fun a w' => Result.ok (Value.tuple #[a, .int .i64 0]) w') = _
  rw [hr]
  simp
end Go.Proofs.YtaojidcneocelaaGreatDoor
