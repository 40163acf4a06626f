/- ber.read, Read at short lengths: elements with kids. (Written by mkcons.py out of XBerH.) -/
import Derived.Test.YtaojidcneocelaaGreatDoorBerH
namespace Go.Proofs.YtaojidcneocelaaGreatDoor
open Go.RowKit Go.Lib

mutual
/-- What bytes with short lengths are read as, and what stands behind. -/
inductive Rd : List UInt8 → El → List UInt8 → Prop where
  | prim (b0 b1 : UInt8) (c rest : List UInt8) (h0 : b0.toNat % 32 ≤ 30) (h1 : b1.toNat < 128) (hl : c.length = b1.toNat) (hp : b0.toNat / 32 % 2 = 0) :
      Rd (b0 :: b1 :: (c ++ rest)) (.mk ((b0.toNat / 64 : Nat) : Int) ((b0.toNat % 32 : Nat) : Int) false c []) rest
  | cons (b0 b1 : UInt8) (c rest : List UInt8) (ks : List El) (h0 : b0.toNat % 32 ≤ 30) (h1 : b1.toNat < 128) (hl : c.length = b1.toNat) (hp : b0.toNat / 32 % 2 = 1) (hk : RdL c ks) :
      Rd (b0 :: b1 :: (c ++ rest)) (.mk ((b0.toNat / 64 : Nat) : Int) ((b0.toNat % 32 : Nat) : Int) true [] ks) rest
inductive RdL : List UInt8 → List El → Prop where
  | nil : RdL [] []
  | cons (c : List UInt8) (k : El) (c2 : List UInt8) (ks : List El) (h1 : Rd c k c2) (h2 : RdL c2 ks) : RdL c (k :: ks)
end
theorem Rd.shrink {b : List UInt8} {el : El} {rest : List UInt8} (h : Rd b el rest) : rest.length < b.length := by
  cases h <;> (simp; omega)
/-- What read returns. -/
def ReadPost (w : World) (el : El) (rest : List UInt8) (e : Ending) (w' : World) : Prop :=
  (∃ u, e = .returned (.tuple #[.agg (elA el u), .string ⟨rest.toArray⟩]) ∧ KidsAt (fun g => w.heap.size ≤ g) w' u el.kids) ∧ Below w.heap.size w w'
def sLen : Value → Nat
  | .string s => s.size
  | _ => 0
/-- Behind the kids that were read. -/
def RkRel (w : World) (G Q R : Nat) (ks : List El) (cv : Value) (wr : World) : Prop :=
  ∃ (done rem : List El) (us : List Value) (c2 : List UInt8) (v : Value), cv = .string ⟨c2.toArray⟩ ∧ RdL c2 rem ∧ done ++ rem = ks ∧ done.length + c2.length ≤ 127 ∧
    wr.heap[G]? = some (.cells #[.int .i64 (Q : Int), .int .i64 (R : Int), .bool true, .string ⟨#[]⟩, v] 76 (0, 0)) ∧ wr.heap[w.heap.size]? = some (.cells #[.int .i64 0, .int .i64 0, .bool false, .string ⟨#[]⟩, .slice none 0 0] 76 (0, 0)) ∧
    wr.ownsRow (G + 1) 76 5 v done.length (flatE done us) ∧ us.length = done.length ∧ Below w.heap.size w wr ∧
    ∀ (j : Nat) (e : El) (u : Value), done[j]? = some e → us[j]? = some u → KidsAt (fun g => G < g ∧ v.ownBlock ≠ some g) wr u e.kids
set_option maxRecDepth 100000 in
set_option maxHeartbeats 4000000 in
theorem read_cons (n : Nat) (ih : ∀ (b : List UInt8) (el : El) (rest : List UInt8), Rd b el rest → depE el ≤ n → rest.length ≤ 1000000 → ∀ (d : Nat), d + n ≤ 20 → ∀ w : World, Calls Tryz.prog 76 #[.string ⟨b.toArray⟩, .int .i64 (d : Int)] w (ReadPost w el rest))
    (b0 b1 : UInt8) (c rest : List UInt8) (ks : List El) (h0 : b0.toNat % 32 ≤ 30) (h1 : b1.toNat < 128) (hl : c.length = b1.toNat) (hp : b0.toNat / 32 % 2 = 1) (hk : RdL c ks) (hdep : depL ks ≤ n) (hr : rest.length ≤ 1000000) (d : Nat) (hd : d + n < 20) (w : World) :
    Calls Tryz.prog 76 #[.string ⟨(b0 :: b1 :: (c ++ rest)).toArray⟩, .int .i64 (d : Int)] w (ReadPost w (.mk ((b0.toNat / 64 : Nat) : Int) ((b0.toNat % 32 : Nat) : Int) true [] ks) rest) := by
  obtain ⟨i0, hi0, hz0, hz1, hz2⟩ := info_parts Tryz.infoElement
  have IH := Lib.hid ih
  have HK := Lib.hid hk
  have HDE := Lib.hid hdep
  clear ih hk hdep
  unfold ReadPost
  have b1w : Below w.heap.size w (w.alloc (.cells #[.int .i64 0, .int .i64 0, .bool false, .string ⟨#[]⟩, .slice none 0 0] 76)) := (Below.refl _ _).alloc (Nat.le_refl _) _
  have r1 : (w.alloc (.cells #[.int .i64 0, .int .i64 0, .bool false, .string ⟨#[]⟩, .slice none 0 0] 76)).heap[w.heap.size]? = some (.cells #[.int .i64 0, .int .i64 0, .bool false, .string ⟨#[]⟩, .slice none 0 0] 76 (0, 0)) := alloc_at _ _ _ rfl
  have kh := head_short b0 b1 (c ++ rest) h0 h1 (w.alloc (.cells #[.int .i64 0, .int .i64 0, .bool false, .string ⟨#[]⟩, .slice none 0 0] 76))
  go_enter Tryz.func76, Tryz.ntmps76
  go_wp2_with fail
  refine Calls.mono (show Calls _ _ _ _ _ from kh) ?_
  rintro e w2 ⟨rfl, m, rfl⟩
  have r2 : ((w.alloc (.cells #[.int .i64 0, .int .i64 0, .bool false, .string ⟨#[]⟩, .slice none 0 0] 76)).drewN m).heap[w.heap.size]? = some (.cells #[.int .i64 0, .int .i64 0, .bool false, .string ⟨#[]⟩, .slice none 0 0] 76 (0, 0)) := r1
  have b2 := bel_drwN b1w m
  clear r1 b1w kh
  generalize (w.alloc (.cells #[.int .i64 0, .int .i64 0, .bool false, .string ⟨#[]⟩, .slice none 0 0] 76)).drewN m = w2 at r2 b2 ⊢
  obtain ⟨S, hS⟩ : ∃ S, b0 :: b1 :: (c ++ rest) = S := ⟨_, rfl⟩
  have hSl : S.length = 2 + b1.toNat + rest.length := by rw [← hS]; simp; omega
  have g1 : decide ((20 : Int) ≤ (d : Int)) = false := decide_eq_false (by omega)
  have g2 : decide ((S.length : Int) < 2 + (b1.toNat : Int)) = false := decide_eq_false (by omega)
  rw [hS]
  go_wp2_with fail
  have e0 : (⟨S.toArray⟩ : ByteArray)[0]'(by simp [ByteArray.size]; omega) = b0 := by subst hS; rfl
  have ha := and31 b0
  have hb := and32 b0
  refine wp_region_held (S := fun _ => True) (by kernel_rfl) ?_
  have r3 : w2.drew.heap[w.heap.size]? = some (.cells #[.int .i64 0, .int .i64 0, .bool false, .string ⟨#[]⟩, .slice none 0 0] 76 (0, 0)) := r2
  have b3 : Below w.heap.size w w2.drew := b2.drew
  change wpAnyH _ _ _ _ _ _ _ _ w2.drew
  clear r2 b2
  generalize w2.drew = w3 at r3 b3 ⊢
  refine anyH_take 0 (.string ⟨S.toArray⟩) rfl (by kernel_rfl) (by kernel_rfl) (by kernel_rfl) (fun _ _ _ h => h) (by rfl) (fun w' _ => by go_simp) trivial (fun K hK => ?_); go_simp; refine hK _ _ ?_; clear hK K
  refine anyH_take 4 (.string ⟨S.toArray⟩) rfl (by kernel_rfl) (by kernel_rfl) (by kernel_rfl) (fun _ _ _ h => h) (by rfl) (fun w' _ => by go_simp) trivial (fun K hK => ?_); go_simp; refine hK _ _ ?_; clear hK K
  refine anyH_take 8 (.string ⟨S.toArray⟩) rfl (by kernel_rfl) (by kernel_rfl) (by kernel_rfl) (fun _ _ _ h => h) (by rfl) (fun w' _ => by go_simp) trivial (fun K hK => ?_); go_simp; refine hK _ _ ?_; clear hK K
  refine anyH_take 1 (.int .u8 (b0.toNat : Int)) rfl (by kernel_rfl) (by kernel_rfl) (by kernel_rfl) (fun _ _ _ h => h) (by rfl) (fun w' _ => by have hp0 : ¬ ((2 : Int) + (b1.toNat : Int) + (rest.length : Int) ≤ 0) := (by omega); go_simp) trivial (fun K hK => ?_); go_simp; refine hK _ _ ?_; clear hK K
  refine anyH_take 5 (.int .u8 (b0.toNat : Int)) rfl (by kernel_rfl) (by kernel_rfl) (by kernel_rfl) (fun _ _ _ h => h) (by rfl) (fun w' _ => by have hp0 : ¬ ((2 : Int) + (b1.toNat : Int) + (rest.length : Int) ≤ 0) := (by omega); go_simp) trivial (fun K hK => ?_); go_simp; refine hK _ _ ?_; clear hK K
  refine anyH_take 9 (.int .u8 (b0.toNat : Int)) rfl (by kernel_rfl) (by kernel_rfl) (by kernel_rfl) (fun _ _ _ h => h) (by rfl) (fun w' _ => by have hp0 : ¬ ((2 : Int) + (b1.toNat : Int) + (rest.length : Int) ≤ 0) := (by omega); go_simp) trivial (fun K hK => ?_); go_simp; refine hK _ _ ?_; clear hK K
  obtain ⟨Q, hQ⟩ : ∃ Q, b0.toNat / 64 = Q := ⟨_, rfl⟩
  obtain ⟨R, hR⟩ : ∃ R, b0.toNat % 32 = R := ⟨_, rfl⟩
  refine anyH_take 2 (.int .u8 (Q : Int)) rfl (by kernel_rfl) (by kernel_rfl) (by kernel_rfl) (fun _ _ _ h => h) (by rfl) (fun w' _ => by have hq : (b0.toNat : Int) / 64 = (Q : Int) := (by omega); go_simp) trivial (fun K hK => ?_); go_simp; refine hK _ _ ?_; clear hK K
  have hQ3 : Q ≤ 3 := by have := UInt8.toNat_lt b0; omega
  have hqw : IntKind.i64.wrap (Q : Int) = (Q : Int) := by rw [IntKind.wrap_i64]; omega
  have hrw : IntKind.i64.wrap (R : Int) = (R : Int) := by rw [IntKind.wrap_i64]; omega
  rw [hR] at ha
  rw [hp] at hb
  refine anyH_take 6 (.int .u8 (R : Int)) rfl (by kernel_rfl) (by kernel_rfl) (by kernel_rfl) (fun _ _ _ h => h) (by rfl) (fun w' _ => by go_simp) trivial (fun K hK => ?_); go_simp; refine hK _ _ ?_; clear hK K
  refine anyH_take 10 (.int .u8 32) rfl (by kernel_rfl) (by kernel_rfl) (by kernel_rfl) (fun _ _ _ h => h) (by rfl) (fun w' _ => by go_simp) trivial (fun K hK => ?_); go_simp; refine hK _ _ ?_; clear hK K
  refine anyH_take 3 (.int .i64 (Q : Int)) rfl (by kernel_rfl) (by kernel_rfl) (by kernel_rfl) (fun _ _ _ h => h) (by rfl) (fun w' _ => by go_simp) trivial (fun K hK => ?_); go_simp; refine hK _ _ ?_; clear hK K
  refine anyH_take 7 (.int .i64 (R : Int)) rfl (by kernel_rfl) (by kernel_rfl) (by kernel_rfl) (fun _ _ _ h => h) (by rfl) (fun w' _ => by go_simp) trivial (fun K hK => ?_); go_simp; refine hK _ _ ?_; clear hK K
  refine anyH_take 11 (.bool true) rfl (by kernel_rfl) (by kernel_rfl) (by kernel_rfl) (fun _ _ _ h => h) (by rfl) (fun w' _ => by go_simp) trivial (fun K hK => ?_); go_simp; refine hK _ _ ?_; clear hK K
  refine anyH_take 12 (.agg #[.int .i64 (Q : Int), .int .i64 (R : Int), .bool true, .string ⟨#[]⟩, .slice none 0 0]) rfl (by kernel_rfl) (by kernel_rfl) (by kernel_rfl) (fun _ _ _ h => h) (by rfl) (fun w' _ => by go_simp) trivial (fun K hK => ?_); go_simp; refine hK _ _ ?_; clear hK K
  refine anyH_one 13 (by kernel_rfl) rfl (by rfl) (fun K hK => ?_); go_simp; refine hK _ _ trivial ?_; clear hK K
  refine anyH_one 14 (by kernel_rfl) rfl (by rfl) (fun K hK => ?_); go_simp; refine hK _ _ trivial ?_; clear hK K
  refine wpAnyH_done (by kernel_rfl) ?_ _
  simp only [Exit.then]
  refine ‹∀ (a : Act) (w : World), Code.wp _ _ _ a w → _› _ _ ?_
  have hlt := (Array.getElem?_eq_some_iff.1 r3).1
  have m3 : Below w3.heap.size w3 (w3.alloc (.cells #[.int .i64 (Q : Int), .int .i64 (R : Int), .bool true, .string ⟨#[]⟩, .slice none 0 0] 76)) := (Below.refl _ _).alloc (Nat.le_refl _) _
  have x4 : (w3.alloc (.cells #[.int .i64 (Q : Int), .int .i64 (R : Int), .bool true, .string ⟨#[]⟩, .slice none 0 0] 76)).heap[w3.heap.size]? = some (.cells #[.int .i64 (Q : Int), .int .i64 (R : Int), .bool true, .string ⟨#[]⟩, .slice none 0 0] 76 (0, 0)) := alloc_at _ _ _ rfl
  have r4 := (m3.block _ hlt).trans r3
  have b4 := b3.trans (m3.mono b3.size)
  obtain ⟨G, hG⟩ : ∃ G, w3.heap.size = G := ⟨_, rfl⟩
  rw [hG] at x4 hlt m3
  rw [hG]
  have hs4 := m3.size
  generalize w3.alloc (.cells #[.int .i64 (Q : Int), .int .i64 (R : Int), .bool true, .string ⟨#[]⟩, .slice none 0 0] 76) = w4 at x4 r4 b4 hs4 ⊢
  clear m3 hG r3 b3
  have ex1 : (⟨S.toArray⟩ : ByteArray).extract 2 (2 + b1.toNat) = ⟨c.toArray⟩ := by rw [Lib.extract_eq, ← hS]; simp [← hl]
  have q2 : w4.cell? ⟨G, 2, none⟩ = some (.bool true) := (Lib.cell_of_heap x4 2).trans rfl
  go_wp2_with fail
  clear q2
  try rw [ex1]
  go_loopw [10] (fun cv wr => RkRel w G Q R ks cv wr) (fun cv _ => sLen cv)
  case atStart => exact ⟨[], ks, [], c, .slice none 0 0, by first | rfl | (rw [ex1]), HK.out, rfl, by simp; omega, x4, r4, World.ownsRow_nil _ _ _ _, rfl, b4, fun j e u h => by simp at h⟩
  case round =>
    clear x4 r4 b4 hs4 ex1
    obtain ⟨dn, rm, us, c2, v, rfl, hk2, hdr, hc2, hx, hrz, hown, hul, hbe, hkids⟩ := hrel
    obtain ⟨av, cv, hfv⟩ := own_shape hown
    subst hfv
    cases hk2 with
    | nil =>
      have hdr' : dn = ks := by simpa using hdr
      subst hdr'
      have hwG : w.heap.size < G := by omega
      have res := kids_own (P := fun g => G < g) hown hul (fun j e u q1 q2 => (hkids j e u q1 q2).mono (fun g hg _ => hg.1)) (fun g hg => hg)
      have HR := Lib.hid res
      clear hown hkids res hul hdr
      go_wp2_with fail
      refine wp_region_held (S := fun w' => w'.heap[G]? = some (.cells #[.int .i64 (Q : Int), .int .i64 (R : Int), .bool true, .string ⟨#[]⟩, .slice av dn.length cv] 76 (0, 0))) (by kernel_rfl) ?_
      have x7 : wr.drew.heap[G]? = some (.cells #[.int .i64 (Q : Int), .int .i64 (R : Int), .bool true, .string ⟨#[]⟩, .slice av dn.length cv] 76 (0, 0)) := hx
      have r7 : wr.drew.heap[w.heap.size]? = some (.cells #[.int .i64 0, .int .i64 0, .bool false, .string ⟨#[]⟩, .slice none 0 0] 76 (0, 0)) := hrz
      have b7 : Below w.heap.size w wr.drew := hbe.drew
      have HR7 := Lib.hid (HR.out.kept (w' := wr.drew) (Q := fun g => G < g) (fun g hg _ => ⟨rfl, hg⟩))
      change wpAnyH _ _ _ _ _ _ _ _ wr.drew
      clear hx hrz hbe HR
      generalize wr.drew = w7 at x7 r7 b7 HR7 ⊢
      refine anyH_take 0 (.agg #[.int .i64 (Q : Int), .int .i64 (R : Int), .bool true, .string ⟨#[]⟩, .slice av dn.length cv]) rfl (by kernel_rfl) (by kernel_rfl) (by kernel_rfl) (fun _ _ _ h => h) (by rfl) (fun w' hS => by exact exec_loadRow 76 (.tmp 9) rfl G 76 _ (0, 0) (by rfl) hS _ Tryz.underlying76 rfl (by rfl)) x7 (fun K hK => ?_); go_simp; refine hK _ _ ?_; clear hK K
      refine anyH_take 1 (.string ⟨S.toArray⟩) rfl (by kernel_rfl) (by kernel_rfl) (by kernel_rfl) (fun _ _ _ h => h) (by rfl) (fun w' hS => by go_simp) x7 (fun K hK => ?_); go_simp; refine hK _ _ ?_; clear hK K
      refine anyH_take 2 (.int .i64 2) rfl (by kernel_rfl) (by kernel_rfl) (by kernel_rfl) (fun _ _ _ h => h) (by rfl) (fun w' hS => by go_simp) x7 (fun K hK => ?_); go_simp; refine hK _ _ ?_; clear hK K
      refine anyH_take 3 (.int .i64 (b1.toNat : Int)) rfl (by kernel_rfl) (by kernel_rfl) (by kernel_rfl) (fun _ _ _ h => h) (by rfl) (fun w' hS => by go_simp) x7 (fun K hK => ?_); go_simp; refine hK _ _ ?_; clear hK K
      have hw2 : IntKind.i64.wrap (2 + (b1.toNat : Int)) = 2 + (b1.toNat : Int) := by rw [IntKind.wrap_i64]; omega
      refine anyH_take 4 (.int .i64 (2 + (b1.toNat : Int))) rfl (by kernel_rfl) (by kernel_rfl) (by kernel_rfl) (fun _ _ _ h => h) (by rfl) (fun w' hS => by go_simp) x7 (fun K hK => ?_); go_simp; refine hK _ _ ?_; clear hK K
      have ex2 : (⟨S.toArray⟩ : ByteArray).extract (2 + b1.toNat) (2 + b1.toNat + rest.length) = ⟨rest.toArray⟩ := by rw [Lib.extract_eq, ← hS]; simp [← hl, Nat.add_comm 2]
      refine anyH_take 5 (.string ⟨rest.toArray⟩) rfl (by kernel_rfl) (by kernel_rfl) (by kernel_rfl) (fun _ _ _ h => h) (by rfl) (fun w' hS => by have hw3 : (0 : Int) ≤ 2 + (b1.toNat : Int) := (by omega); have hw4 : ((2 : Int) + (b1.toNat : Int)).toNat = 2 + b1.toNat := (by omega); go_simp) x7 (fun K hK => ?_); go_simp; refine hK _ _ ?_; clear hK K
      have k8 := setRow_heap w7 w.heap.size _ #[.int .i64 (Q : Int), .int .i64 (R : Int), .bool true, .string ⟨#[]⟩, .slice av dn.length cv] _ _ r7
      have x8 := (setRow_other w7 w.heap.size G #[.int .i64 (Q : Int), .int .i64 (R : Int), .bool true, .string ⟨#[]⟩, .slice av dn.length cv] (by omega)).trans x7
      have b8 := below_row b7 (g := w.heap.size) (Nat.le_refl _) #[.int .i64 (Q : Int), .int .i64 (R : Int), .bool true, .string ⟨#[]⟩, .slice av dn.length cv]
      have K8 : KidsAt (fun g => w.heap.size ≤ g) (w7.setRow w.heap.size #[.int .i64 (Q : Int), .int .i64 (R : Int), .bool true, .string ⟨#[]⟩, .slice av dn.length cv]) (.slice av dn.length cv) dn := HR7.out.kept fun g hg _ => ⟨setRow_other _ _ _ _ (by omega), by omega⟩
      refine anyH_one 6 (by kernel_rfl) rfl (by rfl) (fun K hK => ?_)
      refine op_storeRow 76 (.tmp 4) (.tmp 81) rfl w.heap.size 76 _ #[.int .i64 (Q : Int), .int .i64 (R : Int), .bool true, .string ⟨#[]⟩, .slice av dn.length cv] (by rfl) (by rfl) r7 (by rfl) (by rfl) (by simp [Value.oneCell']) ?_
      refine hK _ _ x8 ?_; clear hK K
      refine anyH_one 7 (by kernel_rfl) rfl (by rfl) (fun K hK => ?_); go_simp; refine hK _ _ x8 ?_; clear hK K
      refine wpAnyH_done (by kernel_rfl) ?_ _
      simp only [Exit.then]
      refine ‹∀ (a : Act) (w : World), Code.wp _ _ _ a w → _› _ _ ?_
      go_wp2_with fail
      refine bodyPost_ret (v := .tuple #[.agg #[.int .i64 (Q : Int), .int .i64 (R : Int), .bool true, .string ⟨#[]⟩, .slice av dn.length cv], .string ⟨rest.toArray⟩]) ?_ rfl ⟨⟨.slice av dn.length cv, ?_, K8⟩, b8⟩
      · have hr := run_loadVar_row (P := Tryz.prog) (w7.setRow w.heap.size #[.int .i64 (Q : Int), .int .i64 (R : Int), .bool true, .string ⟨#[]⟩, .slice av dn.length cv]) w.heap.size 76 76 #[.int .i64 (Q : Int), .int .i64 (R : Int), .bool true, .string ⟨#[]⟩, .slice av dn.length cv] (0, 0) _ k8 (show Tryz.prog.underlying 76 = _ from Tryz.underlying76) (by rfl) (by rfl)
        simp [results, Tryz.f76, asAddr, hr, Result.andThen]
      · subst hQ hR
        rfl
    | cons _ k c3 rem hR hL =>
      have hn : c2 ≠ [] := by intro h; subst h; cases hR
      have hlen3 := hR.shrink
      have hne : c2.isEmpty = false := by cases c2 with | nil => exact absurd rfl hn | cons _ _ => rfl
      have hkd : depE k ≤ n := by
        have h1 := depL_get ks dn.length k (by rw [← hdr]; simp)
        have := HDE.out
        omega
      have m1 : Below wr.heap.size wr (wr.alloc (.cells #[.int .i64 0, .int .i64 0, .bool false, .string ⟨#[]⟩, .slice none 0 0] 76)) := (Below.refl _ _).alloc (Nat.le_refl _) _
      have rk : (wr.alloc (.cells #[.int .i64 0, .int .i64 0, .bool false, .string ⟨#[]⟩, .slice none 0 0] 76)).heap[wr.heap.size]? = some (.cells #[.int .i64 0, .int .i64 0, .bool false, .string ⟨#[]⟩, .slice none 0 0] 76 (0, 0)) := alloc_at _ _ _ rfl
      have hlt := hown.lt
      have hGlt := (Array.getElem?_eq_some_iff.1 hx).1
      have hsz := hbe.size
      have kr := IH.out c2 k c3 hR hkd (by omega) (d + 1) (by omega) (wr.alloc (.cells #[.int .i64 0, .int .i64 0, .bool false, .string ⟨#[]⟩, .slice none 0 0] 76))
      unfold ReadPost at kr
      have hdc : ((d + 1 : Nat) : Int) = (d : Int) + 1 := by omega
      rw [hdc] at kr
      have HX := Lib.hid ((m1.block _ hGlt).trans hx)
      have HZ := Lib.hid ((m1.block _ (Array.getElem?_eq_some_iff.1 hrz).1).trans hrz)
      have HO := Lib.hid hown
      have HKD := Lib.hid hkids
      have HL := Lib.hid hL
      have HB := Lib.hid (hbe.trans (m1.mono hsz))
      have HLT := Lib.hid hlt
      have hsm := m1.size
      have M1 := Lib.hid m1
      have RK := Lib.hid rk
      clear hdc hx hrz hown hkids hL hR hbe hlt m1 rk
      go_wp2_with fail
      refine Calls.mono (show Calls _ _ _ _ _ from kr) ?_
      rintro e w2 ⟨⟨u2, rfl, hu2⟩, hb2⟩
      obtain ⟨a2, cc2, hf2⟩ := hu2.shape
      subst hf2
      have hk2 := (hb2.block _ (Array.getElem?_eq_some_iff.1 RK.out).1).trans RK.out
      have hx2 := (hb2.block _ (Array.getElem?_eq_some_iff.1 HX.out).1).trans HX.out
      have hz2 := (hb2.block _ (Array.getElem?_eq_some_iff.1 HZ.out).1).trans HZ.out
      have ho2 := own_below (own_below HO.out M1.out) hb2
      have hb3 := HB.out.trans (hb2.mono (by omega))
      have hs2 := hb2.size
      have hBlt : wr.heap.size < (wr.alloc (.cells #[.int .i64 0, .int .i64 0, .bool false, .string ⟨#[]⟩, .slice none 0 0] 76)).heap.size := (Array.getElem?_eq_some_iff.1 RK.out).1
      have hold2 : ∀ g, g < wr.heap.size → w2.heap[g]? = wr.heap[g]? := fun g hg => (hb2.block g (by omega)).trans (M1.out.block g hg)
      -- the kid is written into its block
      have x3 : (w2.setRow wr.heap.size (elA k (.slice a2 k.kids.length cc2))).heap[G]? = some (.cells #[.int .i64 (Q : Int), .int .i64 (R : Int), .bool true, .string ⟨#[]⟩, .slice av dn.length cv] 76 (0, 0)) := (setRow_other w2 wr.heap.size G _ (by omega)).trans hx2
      have rz3 := (setRow_other w2 wr.heap.size w.heap.size (elA k (.slice a2 k.kids.length cc2)) (by omega)).trans hz2
      have k3 : (w2.setRow wr.heap.size (elA k (.slice a2 k.kids.length cc2))).heap[wr.heap.size]? = some (.cells #[.int .i64 k.cls, .int .i64 k.tag, .bool k.cons, .string ⟨k.bytes.toArray⟩, .slice a2 k.kids.length cc2] 76 (0, 0)) := setRow_heap w2 wr.heap.size _ _ _ _ hk2
      have ho3 : (w2.setRow wr.heap.size (elA k (.slice a2 k.kids.length cc2))).ownsRow (G + 1) 76 5 (.slice av dn.length cv) dn.length (flatE dn us) := ho2.kept (grown_row w2 wr.heap.size _) (.inr (fun h => by have := (HLT.out _ h).2; omega))
      have b3 : Below w.heap.size w (w2.setRow wr.heap.size (elA k (.slice a2 k.kids.length cc2))) := below_row hb3 (by omega) _
      have hold3 : ∀ g, g < wr.heap.size → (w2.setRow wr.heap.size (elA k (.slice a2 k.kids.length cc2))).heap[g]? = wr.heap[g]? := fun g hg => (setRow_other w2 wr.heap.size g _ (by omega)).trans (hold2 g hg)
      have hnew3 : ∀ g, wr.heap.size < g → (w2.setRow wr.heap.size (elA k (.slice a2 k.kids.length cc2))).heap[g]? = w2.heap[g]? := fun g hg => setRow_other w2 wr.heap.size g _ (by omega)
      have hsz3 : w2.heap.size ≤ (w2.setRow wr.heap.size (elA k (.slice a2 k.kids.length cc2))).heap.size := by simp [World.setRow]
      have HU := Lib.hid hu2
      have HOLD := Lib.hid hold3
      have HNEW := Lib.hid hnew3
      have HK2 := Lib.hid hk2
      clear hu2 hold2 hold3 hnew3 kr hb2 hx2 hz2 ho2 hb3 hk2 HX HZ HO HB M1 RK
      have HO3 := Lib.hid ho3
      have HX3 := Lib.hid x3
      have HZ3 := Lib.hid rz3
      have HK3 := Lib.hid k3
      have HB3 := Lib.hid b3
      clear ho3 x3 rz3 k3 b3
      go_wp2_with (first
        | (refine wpList_storeRow rfl 76 (.tmp 11) (.tmp 73) rfl wr.heap.size 76 _ (elA k (.slice a2 k.kids.length cc2)) (by rfl) (by rfl) HK2.out (by rfl) (by rfl) (by simp [elA, Value.oneCell']) ?_; generalize w2.setRow wr.heap.size (elA k (.slice a2 k.kids.length cc2)) = w3 at HO3 HX3 HZ3 HK3 HB3 HOLD HNEW hsz3 ⊢; have q4 : w3.cell? ⟨G, 4, none⟩ = some (.slice av dn.length cv) := (Lib.cell_of_heap HX3.out 4).trans rfl)
        | (refine wpList_loadRow rfl 76 (.tmp 11) rfl wr.heap.size 76 _ (0, 0) (by rfl) HK3.out _ Tryz.underlying76 rfl (by rfl) ?_)
        | (at_builtin; refine wpList_append_lies _ rfl (.tmp 76) (.tmp 78) 74 rfl (G + 1) 76 i0 _ 5 64 Tryz.underlying74 hi0 hz0 hz1 hz2 rfl (by decide) (.slice av dn.length cv) dn.length (flatE dn us) rfl (HO3.out.alloc _) ⟨w3.heap.size, 0, none⟩ 1 1 [.int .i64 k.cls, .int .i64 k.tag, .bool k.cons, .string ⟨k.bytes.toArray⟩, .slice a2 k.kids.length cc2] rfl rfl (World.news_of_block (alloc_at _ _ _ rfl)) (by simp [Value.oneCell']) (by decide) (by unfold maxLen; omega) (by omega) (by simp; omega) (w3.heap.size + 1) (by simp) ?_; intro g5 cap5 w5 ho5 hg5 hat5 hlt5; clear q4; have x5 := (hg5.block G (by simp; omega) (fun h => by have := (HLT.out G h.symm).1; omega)).trans ((Lib.alloc_old _ _ _ (by omega)).trans HX3.out); have q5 : w5.cell? ⟨G, 4, none⟩ = some (.slice av dn.length cv) := (Lib.cell_of_heap x5 4).trans rfl; have z5 := Lib.frozen_of_heap x5 4))
      have hl5 := ho5.lt
      have x6 : (w5.setCell ⟨G, 4, none⟩ (.slice (some ⟨g5, 0, none⟩) (dn.length + 1) cap5)).heap[G]? = some (.cells #[.int .i64 (Q : Int), .int .i64 (R : Int), .bool true, .string ⟨#[]⟩, (.slice (some ⟨g5, 0, none⟩) (dn.length + 1) cap5)] 76 (0, 0)) := setCell_at (i := 4) (u := (.slice (some ⟨g5, 0, none⟩) (dn.length + 1) cap5)) x5
      have hgG : G < g5 := by have := (hl5 g5 rfl).1; omega
      have hG3 : G < w3.heap.size := (Array.getElem?_eq_some_iff.1 HX3.out).1
      have rz5 : w5.heap[w.heap.size]? = some (.cells #[.int .i64 0, .int .i64 0, .bool false, .string ⟨#[]⟩, .slice none 0 0] 76 (0, 0)) := (hg5.block w.heap.size (by simp; omega) (fun h => by have := (HLT.out _ h.symm).1; omega)).trans ((Lib.alloc_old _ _ _ (by omega)).trans HZ3.out)
      have rz6 := (Below.heap_setCell w5 ⟨G, 4, none⟩ (.slice (some ⟨g5, 0, none⟩) (dn.length + 1) cap5) w.heap.size (by show w.heap.size ≠ G; omega)).trans rz5
      have b6 := (((HB3.out.alloc (by omega) (.cells #[.int .i64 k.cls, .int .i64 k.tag, .bool k.cons, .string ⟨k.bytes.toArray⟩, (.slice a2 k.kids.length cc2)] 76)).grown hg5 (by simp; omega) (fun b hb => by have := (HLT.out b hb).1; omega))).setCell (p := ⟨G, 4, none⟩) (by show w.heap.size ≤ G; omega) (.slice (some ⟨g5, 0, none⟩) (dn.length + 1) cap5)
      have own6 : (w5.setCell ⟨G, 4, none⟩ (.slice (some ⟨g5, 0, none⟩) (dn.length + 1) cap5)).ownsRow (G + 1) 76 5 (.slice (some ⟨g5, 0, none⟩) (dn.length + 1) cap5) (dn ++ [k]).length (flatE (dn ++ [k]) (us ++ [(.slice a2 k.kids.length cc2)])) := by
        rw [flatE_snoc _ _ _ _ hul, List.length_append]
        exact ho5.kept (grown_set w5 G 4 _) (.inr (fun h => by have := (hl5 _ h).1; omega))
      have hoth : ∀ g', g' ≠ G → g' < w3.heap.size → (.slice av dn.length cv : Value).ownBlock ≠ some g' → (w5.setCell ⟨G, 4, none⟩ (.slice (some ⟨g5, 0, none⟩) (dn.length + 1) cap5)).heap[g']? = w3.heap[g']? ∧ ((.slice (some ⟨g5, 0, none⟩) (dn.length + 1) cap5) : Value).ownBlock ≠ some g' := by
        intro g' hne hg' hno
        refine ⟨(Below.heap_setCell w5 ⟨G, 4, none⟩ (.slice (some ⟨g5, 0, none⟩) (dn.length + 1) cap5) g' hne).trans ((hg5.block g' (by simp; omega) (fun h => hno h.symm)).trans (Lib.alloc_old _ _ _ hg')), fun h => ?_⟩
        rcases hat5 with h5 | h5
        · have : g5 = g' := by simpa [Value.ownBlock] using h
          subst this
          exact hno h5
        · have : g5 = g' := by simpa [Value.ownBlock] using h
          omega
      refine ⟨⟨dn ++ [k], rem, us ++ [(.slice a2 k.kids.length cc2)], c3, (.slice (some ⟨g5, 0, none⟩) (dn.length + 1) cap5), rfl, HL.out, by rw [List.append_assoc]; exact hdr, by simp; omega, x6, rz6, own6, by simp [hul], b6, fun j e' u' q1 q2 => ?_⟩, ?_⟩
      · by_cases hjk : j < dn.length
        · rw [List.getElem?_append_left hjk] at q1
          rw [List.getElem?_append_left (by rw [hul]; exact hjk)] at q2
          refine (HKD.out j e' u' q1 q2).kept fun g' hg' hlt' => ?_
          obtain ⟨r1, r2⟩ := hoth g' (by omega) (by omega) hg'.2
          exact ⟨r1.trans (HOLD.out g' hlt'), hg'.1, r2⟩
        · have hj : j = dn.length := by
            have := (List.getElem?_eq_some_iff.1 q2).1
            simp [hul] at this
            omega
          subst hj
          rw [List.getElem?_append_right (Nat.le_refl _), Nat.sub_self] at q1
          rw [List.getElem?_append_right (by rw [hul]; exact Nat.le_refl _), hul, Nat.sub_self] at q2
          cases q1
          cases q2
          refine HU.out.kept fun g' hg' hlt' => ?_
          obtain ⟨r1, r2⟩ := hoth g' (by omega) (by omega) (fun h => by have := (HLT.out g' h).2; omega)
          exact ⟨r1.trans (HNEW.out g' (by omega)), by omega, r2⟩
      · show (⟨c3.toArray⟩ : ByteArray).size < (⟨c2.toArray⟩ : ByteArray).size
        rw [Lib.size_mk, Lib.size_mk]
        exact hlen3
end Go.Proofs.YtaojidcneocelaaGreatDoor
