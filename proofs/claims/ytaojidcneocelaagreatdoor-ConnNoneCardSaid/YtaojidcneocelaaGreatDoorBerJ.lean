/- ber.read, Read at short lengths: what they return. -/
import Derived.Test.YtaojidcneocelaaGreatDoorBerI
import Derived.Defers
import Derived.Recover
import Derived.Laws.Pointers
namespace Go.Proofs.YtaojidcneocelaaGreatDoor
open Go.RowKit Go.Lib

theorem read_any (n : Nat) : ∀ (b : List UInt8) (el : El) (rest : List UInt8), Rd b el rest → depE el ≤ n → rest.length ≤ 1000000 → ∀ (d : Nat), d + n ≤ 20 → ∀ w : World, Calls Tryz.prog 76 #[.string ⟨b.toArray⟩, .int .i64 (d : Int)] w (ReadPost w el rest) := by
  induction n with
  | zero => intro b el rest _ hd; rw [depE_kids] at hd; omega
  | succ n ih =>
    intro b el rest h hd hr d hdn w
    cases h with
    | prim b0 b1 c _ h0 h1 hl hp =>
      exact (read_prim b0 b1 c rest h0 h1 hl hp hr d (by omega) w).mono fun e w' h => ⟨⟨_, h.1, KidsAt.nil _ _⟩, h.2⟩
    | cons b0 b1 c _ ks h0 h1 hl hp hk =>
      simp only [depE] at hd
      exact read_cons n ih b0 b1 c rest ks h0 h1 hl hp hk (by omega) hr d (by omega) w
set_option maxRecDepth 100000 in
set_option maxHeartbeats 2000000 in
theorem read_idle (po pe : Nat) (w : World) :
    CallsD Tryz.prog 75 #[.pointer (some ⟨po, 0, none⟩), .pointer (some ⟨pe, 0, none⟩)] .returning w fun e u' w' => e = .returned (.tuple #[]) ∧ u' = .returning ∧ w' = w := by
  refine callsD_of_wpS Tryz.func75 rfl fun c₀ cs hu => ?_
  apply wpS_seq
  apply wpS_region
  simp [wpOpsS, go_sem, recoverD, hu, Tryz.ntmps75, Exit.thenS]
  refine wpS_of_wp ?_
  simp only [Array.replicate, List.replicate, List.setIfInBounds_toArray, List.set]
  go_wp2
  cases c₀
  simp_all [bodyPostS, results, Tryz.results75]
set_option maxRecDepth 100000 in
set_option maxHeartbeats 4000000 in
theorem Read_short (b : List UInt8) (el : El) (h : Rd b el []) (hd : depE el ≤ 20) (w : World) :
    Calls Tryz.prog 45 #[.string ⟨b.toArray⟩] w fun e w' => (∃ u, e = .returned (.tuple #[.agg (elA el u), .int .i64 0]) ∧ KidsAt (fun g => w.heap.size ≤ g) w' u el.kids) ∧ Below w.heap.size w w' := by
  have hmf : ∀ (fn : Fn) (first cap : Array Value) (w : World), (Instr.makeFunc fn first cap).run Tryz.prog w = .ok (.func fn first cap) w := fun _ _ _ _ => rfl
  obtain ⟨PR, hPR⟩ : ∃ PR : Ending → World → Prop, PR = fun e w' => (∃ u, e = .returned (.tuple #[.agg (elA el u), .int .i64 0]) ∧ KidsAt (fun g => w.heap.size ≤ g) w' u el.kids) ∧ Below w.heap.size w w' := ⟨_, rfl⟩
  rw [← hPR]
  have HP := Lib.hid hPR
  clear hPR
  have bA : Below w.heap.size w ((w.alloc (.cells #[.int .i64 0, .int .i64 0, .bool false, .string ⟨#[]⟩, .slice none 0 0] 76)).alloc (.cells #[.int .i64 0] 57)) := ((Below.refl _ _).alloc (Nat.le_refl _) _).alloc (by simp) _
  have rA : ((w.alloc (.cells #[.int .i64 0, .int .i64 0, .bool false, .string ⟨#[]⟩, .slice none 0 0] 76)).alloc (.cells #[.int .i64 0] 57)).heap[w.heap.size]? = some (.cells #[.int .i64 0, .int .i64 0, .bool false, .string ⟨#[]⟩, .slice none 0 0] 76 (0, 0)) := (Lib.alloc_old _ _ _ (by simp)).trans (alloc_at _ _ _ rfl)
  have nA : ((w.alloc (.cells #[.int .i64 0, .int .i64 0, .bool false, .string ⟨#[]⟩, .slice none 0 0] 76)).alloc (.cells #[.int .i64 0] 57)).heap[w.heap.size + 1]? = some (.cells #[.int .i64 0] 57 (0, 0)) := alloc_at _ _ _ (by simp)
  have kr := read_any 20 b el [] h hd (by simp) 0 (by omega)
  unfold ReadPost at kr
  clear h hd
  go_enter_defers Tryz.func45, Tryz.ntmps45
  go_wp2_with fail
  generalize (w.alloc (.cells #[.int .i64 0, .int .i64 0, .bool false, .string ⟨#[]⟩, .slice none 0 0] 76)).alloc (.cells #[.int .i64 0] 57) = wA at bA rA nA ⊢
  refine Calls.mono (show Calls _ _ _ _ _ from kr wA) ?_
  rintro e w1 ⟨⟨u, rfl, hu⟩, hb1⟩
  obtain ⟨a2, c2, hf2⟩ := hu.shape
  subst hf2
  have r1 := (hb1.block _ (Array.getElem?_eq_some_iff.1 rA).1).trans rA
  have n1 := (hb1.block _ (Array.getElem?_eq_some_iff.1 nA).1).trans nA
  have b1 := bA.trans (hb1.mono bA.size)
  clear kr hb1 bA rA
  have m1 : Below w1.heap.size w1 (w1.alloc (.cells #[.int .i64 el.cls, .int .i64 el.tag, .bool el.cons, .string ⟨el.bytes.toArray⟩, .slice a2 el.kids.length c2] 76)) := (Below.refl _ _).alloc (Nat.le_refl _) _
  have hltn := (Array.getElem?_eq_some_iff.1 n1).1
  have r2 := (m1.block _ (Array.getElem?_eq_some_iff.1 r1).1).trans r1
  have n2 := (m1.block _ hltn).trans n1
  have b2 := b1.trans (m1.mono b1.size)
  have hA2 : w.heap.size + 2 ≤ wA.heap.size := (Array.getElem?_eq_some_iff.1 nA).1
  have r3 := setRow_heap (w1.alloc (.cells #[.int .i64 el.cls, .int .i64 el.tag, .bool el.cons, .string ⟨el.bytes.toArray⟩, .slice a2 el.kids.length c2] 76)) w.heap.size _ #[.int .i64 el.cls, .int .i64 el.tag, .bool el.cons, .string ⟨el.bytes.toArray⟩, .slice a2 el.kids.length c2] _ _ r2
  have n3 := (setRow_other (w1.alloc (.cells #[.int .i64 el.cls, .int .i64 el.tag, .bool el.cons, .string ⟨el.bytes.toArray⟩, .slice a2 el.kids.length c2] 76)) w.heap.size (w.heap.size + 1) #[.int .i64 el.cls, .int .i64 el.tag, .bool el.cons, .string ⟨el.bytes.toArray⟩, .slice a2 el.kids.length c2] (by omega)).trans n2
  have b3 := below_row b2 (g := w.heap.size) (Nat.le_refl _) #[.int .i64 el.cls, .int .i64 el.tag, .bool el.cons, .string ⟨el.bytes.toArray⟩, .slice a2 el.kids.length c2]
  have u3 : KidsAt (fun g => w.heap.size + 2 ≤ g) ((w1.alloc (.cells #[.int .i64 el.cls, .int .i64 el.tag, .bool el.cons, .string ⟨el.bytes.toArray⟩, .slice a2 el.kids.length c2] 76)).setRow w.heap.size #[.int .i64 el.cls, .int .i64 el.tag, .bool el.cons, .string ⟨el.bytes.toArray⟩, .slice a2 el.kids.length c2]) (.slice a2 el.kids.length c2) el.kids := (hu.below m1).kept fun g hg _ => ⟨setRow_other _ _ _ _ (by omega), by omega⟩
  have HU := Lib.hid u3
  have HR := Lib.hid r3
  have HN := Lib.hid n3
  have HB := Lib.hid b3
  clear hu r1 n1 b1 m1 n2 b2 r3 n3 b3 u3 nA
  unfold elA
  go_wp2_with (refine wpList_storeRow rfl 76 (.tmp 2) (.tmp 15) rfl w.heap.size 76 _ #[.int .i64 el.cls, .int .i64 el.tag, .bool el.cons, .string ⟨el.bytes.toArray⟩, .slice a2 el.kids.length c2] (by rfl) (by rfl) r2 (by rfl) (by rfl) (by simp [Value.oneCell']) ?_; clear r2; generalize (w1.alloc (.cells #[.int .i64 el.cls, .int .i64 el.tag, .bool el.cons, .string ⟨el.bytes.toArray⟩, .slice a2 el.kids.length c2] 76)).setRow w.heap.size #[.int .i64 el.cls, .int .i64 el.tag, .bool el.cons, .string ⟨el.bytes.toArray⟩, .slice a2 el.kids.length c2] = w3 at HU HR HN HB ⊢; have q3 : w3.cell? ⟨w.heap.size + 1, 0, none⟩ = some (.int .i64 0) := (Lib.cell_of_heap HN.out 0).trans rfl; have z3 := Lib.frozen_of_heap HN.out 0)
  have f1 : (w3.setCell ⟨w.heap.size + 1, 0, none⟩ (.int .i64 0)).heap[w.heap.size]? = some (.cells #[.int .i64 el.cls, .int .i64 el.tag, .bool el.cons, .string ⟨el.bytes.toArray⟩, .slice a2 el.kids.length c2] 76 (0, 0)) := (Below.heap_setCell w3 ⟨w.heap.size + 1, 0, none⟩ (.int .i64 0) w.heap.size (by show w.heap.size ≠ w.heap.size + 1; omega)).trans HR.out
  have f2 : (w3.setCell ⟨w.heap.size + 1, 0, none⟩ (.int .i64 0)).cell? ⟨w.heap.size + 1, 0, none⟩ = some (.int .i64 0) := (Lib.cell_of_heap (show (w3.setCell ⟨w.heap.size + 1, 0, none⟩ (.int .i64 0)).heap[w.heap.size + 1]? = some (.cells #[.int .i64 0] 57 (0, 0)) from setCell_at (i := 0) (u := .int .i64 0) HN.out) 0).trans rfl
  have bF := HB.out.setCell (p := ⟨w.heap.size + 1, 0, none⟩) (by show w.heap.size ≤ w.heap.size + 1; omega) (.int .i64 0)
  have uF : KidsAt (fun g => w.heap.size ≤ g) (w3.setCell ⟨w.heap.size + 1, 0, none⟩ (.int .i64 0)) (.slice a2 el.kids.length c2) el.kids := HU.out.kept fun g hg _ => ⟨Below.heap_setCell w3 ⟨w.heap.size + 1, 0, none⟩ _ g (by show g ≠ w.heap.size + 1; omega), by omega⟩
  clear HU HR HN HB
  generalize w3.setCell ⟨w.heap.size + 1, 0, none⟩ (.int .i64 0) = wF at f1 f2 bF uF ⊢
  refine leaves_cons (f := 75) (args := #[.pointer (some ⟨w.heap.size, 0, none⟩), .pointer (some ⟨w.heap.size + 1, 0, none⟩)]) (by simp) (by simp [go_sem]) ?_
  refine (read_idle w.heap.size (w.heap.size + 1) wF).mono ?_
  rintro e u' w3 ⟨rfl, rfl, hw3⟩
  rw [hw3]
  have c0 : wF.cell? ⟨w.heap.size, 0, none⟩ = some (.int .i64 el.cls) := (Lib.cell_of_heap f1 0).trans rfl
  have c1 : wF.cell? ⟨w.heap.size, 1, none⟩ = some (.int .i64 el.tag) := (Lib.cell_of_heap f1 1).trans rfl
  have c2' : wF.cell? ⟨w.heap.size, 2, none⟩ = some (.bool el.cons) := (Lib.cell_of_heap f1 2).trans rfl
  have c3 : wF.cell? ⟨w.heap.size, 3, none⟩ = some (.string ⟨el.bytes.toArray⟩) := (Lib.cell_of_heap f1 3).trans rfl
  have c4 : wF.cell? ⟨w.heap.size, 4, none⟩ = some (.slice a2 el.kids.length c2) := (Lib.cell_of_heap f1 4).trans rfl
  simp [Leaves, settle, results, Tryz.results45, go_sem, c0, c1, c2', c3, c4, f2]
  rw [HP.out]
  exact ⟨⟨_, rfl, uF⟩, bF⟩
end Go.Proofs.YtaojidcneocelaaGreatDoor
