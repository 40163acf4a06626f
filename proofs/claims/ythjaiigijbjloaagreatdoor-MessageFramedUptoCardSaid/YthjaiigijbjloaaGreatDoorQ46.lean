/- RdD. -/
import Derived.Test.YthjaiigijbjloaaGreatDoorQ45
namespace Go.Proofs.YthjaiigijbjloaaGreatDoor
open Go.RowKit Go.Lib
def rerr (c : Int) : Value := .iface 32 (.int .i64 c)
def RdQ (w : World) (r : Except Int (El × List UInt8)) (e : Ending) (w' : World) : Prop :=
 (match r with
  | .ok (el, rest) => ∃ u, e = .returned (.tuple #[.agg (elA el u), .string ⟨rest.toArray⟩]) ∧ KidsAt (fun g => w.heap.size ≤ g) w' u el.kids
  | .error c => e = .panicked [{ v := rerr c, recovered := false }]) ∧ Below w.heap.size w w'
def RdP (w : World) (k : Nat) (b : List UInt8) : Ending → World → Prop := RdQ w (readR k b)
def RgRel (w : World) (G Q R k : Nat) (c : List UInt8) (cv : Value) (wr : World) : Prop :=
 ∃ (done : List El) (us : List Value) (c2 : List UInt8) (v : Value), cv = .string ⟨c2.toArray⟩ ∧ kidsR (readR k) c.length c = (match kidsR (readR k) c2.length c2 with | .error e => .error e | .ok rem => .ok (done ++ rem)) ∧ done.length + c2.length ≤ 65536 ∧
  wr.heap[G]? = some (.cells #[.int .i64 (Q : Int), .int .i64 (R : Int), .bool true, .string ⟨#[]⟩, v] 45 (0, 0)) ∧ wr.heap[w.heap.size]? = some (.cells Ze 45 (0, 0)) ∧
  wr.ownsRow (G + 1) 45 5 v done.length (flatE done us) ∧ us.length = done.length ∧ Below w.heap.size w wr ∧
  ∀ (j : Nat) (e : El) (u : Value), done[j]? = some e → us[j]? = some u → KidsAt (fun g => G < g ∧ v.ownBlock ≠ some g) wr u e.kids
set_option maxRecDepth 100000 in
set_option maxHeartbeats 4000000 in
theorem read_cons_g (k : Nat) (ih : ∀ (b : List UInt8) (w : World), b.length ≤ 1000000 → Calls Tryz.prog 56 #[.string ⟨b.toArray⟩, .int .i64 ((20 - k : Nat) : Int)] w (RdP w k b)) (hk20 : k < 20)
  (n m : Nat) (b0 : UInt8) (r0 c rest S : List UInt8) (hS : S = (b0 :: r0) ++ (c ++ rest)) (hn : r0.length + 1 = n) (hm : c.length = m) (hh : headB S = (n, m, 0)) (hn6 : n ≤ 6) (hm6 : m ≤ 65536) (hp : b0.toNat / 32 % 2 = 1) (hr : rest.length ≤ 900000000) (w : World) (RES : Except Int (El × List UInt8))
  (hRES : RES = (match kidsR (readR k) c.length c with | .error e => .error e | .ok ks => .ok (.mk ((b0.toNat / 64 : Nat) : Int) ((b0.toNat % 32 : Nat) : Int) true [] ks, rest))) :
  Calls Tryz.prog 56 #[.string ⟨S.toArray⟩, .int .i64 ((19 - k : Nat) : Int)] w (RdQ w RES) := by
 obtain ⟨i0, hi0, hz0, hz1, hz2⟩ := info_parts Tryz.infoElement
 have IH := hid ih
 clear ih
 obtain ⟨PR, hPR⟩ : ∃ PR : Ending → World → Prop, PR = RdQ w RES := ⟨_, rfl⟩
 rw [← hPR]
 have HPR := hid hPR
 have HRES := hid hRES
 clear hPR hRES
 obtain ⟨d, hd⟩ : ∃ d, 19 - k = d := ⟨_, rfl⟩
 have hd20 : 20 - k = d + 1 := by omega
 rw [hd]
 rw [hd20] at IH
 have b1w : Below w.heap.size w (w.alloc (.cells Ze 45)) := (Below.refl _ _).alloc (Nat.le_refl _) _
 have r1 : (w.alloc (.cells Ze 45)).heap[w.heap.size]? = some (.cells Ze 45 (0, 0)) := alloc_at _ _ _ rfl
 have hSl : S.length = n + m + rest.length := by rw [hS]; simp; omega
 have kh : Calls Tryz.prog 54 #[.string ⟨S.toArray⟩] (w.alloc (.cells Ze 45)) fun e w' => e = .returned (.tuple #[.int .i64 (n : Int), .int .i64 (m : Int), .int .i64 0]) ∧ ∃ m, w' = (w.alloc (.cells Ze 45)).drewN m := by
  have h := head_any S (by omega) (w.alloc (.cells Ze 45))
  unfold HeadP at h
  rw [hh] at h
  exact h
 have HSS := hid hS
 clear hh hS
 go_enter Tryz.func56, Tryz.ntmps56
 go_wp2_with fail
 refine Calls.mono kh ?_
 rintro e w2 ⟨rfl, q, rfl⟩
 have r2 : ((w.alloc (.cells Ze 45)).drewN q).heap[w.heap.size]? = some (.cells Ze 45 (0, 0)) := r1
 have b2 := bel_drwN b1w q
 clear r1 b1w kh
 generalize (w.alloc (.cells Ze 45)).drewN q = w2 at r2 b2 ⊢
 have g1 : decide ((20 : Int) ≤ (d : Int)) = false := decide_eq_false (by omega)
 have g2 : decide ((S.length : Int) < (n : Int) + (m : Int)) = false := decide_eq_false (by omega)
 have hwn : IntKind.i64.wrap ((n : Int) + (m : Int)) = (n : Int) + (m : Int) := by rw [IntKind.wrap_i64]; omega
 go_wp2_with fail
 have e0 : (⟨S.toArray⟩ : ByteArray)[0]'(by simp [ByteArray.size]; omega) = b0 := str_at S 0 b0 (by rw [HSS.out]; rfl) _
 have ha := and31 b0
 have hb := and32 b0
 refine wp_region_held (S := fun _ => True) (by kernel_rfl) ?_
 have r3 : w2.drew.heap[w.heap.size]? = some (.cells Ze 45 (0, 0)) := r2
 have b3 : Below w.heap.size w w2.drew := b2.drew
 change wpAnyH _ _ _ _ _ _ _ _ w2.drew
 clear r2 b2
 generalize w2.drew = w3 at r3 b3 ⊢
 refine tk 0 (.string ⟨S.toArray⟩) rfl (fun w' _ => by go_simp) trivial (fun K hK => ?_); go_simp; refine hK _ _ ?_; clear hK K
 refine tk 4 (.string ⟨S.toArray⟩) rfl (fun w' _ => by go_simp) trivial (fun K hK => ?_); go_simp; refine hK _ _ ?_; clear hK K
 refine tk 8 (.string ⟨S.toArray⟩) rfl (fun w' _ => by go_simp) trivial (fun K hK => ?_); go_simp; refine hK _ _ ?_; clear hK K
 refine tk 1 (.int .u8 (b0.toNat : Int)) rfl (fun w' _ => by have hp0 : ¬ ((n : Int) + (m : Int) + (rest.length : Int) ≤ 0) := (by omega); go_simp) trivial (fun K hK => ?_); go_simp; refine hK _ _ ?_; clear hK K
 refine tk 5 (.int .u8 (b0.toNat : Int)) rfl (fun w' _ => by have hp0 : ¬ ((n : Int) + (m : Int) + (rest.length : Int) ≤ 0) := (by omega); go_simp) trivial (fun K hK => ?_); go_simp; refine hK _ _ ?_; clear hK K
 refine tk 9 (.int .u8 (b0.toNat : Int)) rfl (fun w' _ => by have hp0 : ¬ ((n : Int) + (m : Int) + (rest.length : Int) ≤ 0) := (by omega); go_simp) trivial (fun K hK => ?_); go_simp; refine hK _ _ ?_; clear hK K
 obtain ⟨Q, hQ⟩ : ∃ Q, b0.toNat / 64 = Q := ⟨_, rfl⟩
 obtain ⟨R, hR⟩ : ∃ R, b0.toNat % 32 = R := ⟨_, rfl⟩
 refine tk 2 (.int .u8 (Q : Int)) rfl (fun w' _ => by have hq : (b0.toNat : Int) / 64 = (Q : Int) := (by omega); go_simp) trivial (fun K hK => ?_); go_simp; refine hK _ _ ?_; clear hK K
 have hQ3 : Q ≤ 3 := by have := UInt8.toNat_lt b0; omega
 have hqw : IntKind.i64.wrap (Q : Int) = (Q : Int) := by rw [IntKind.wrap_i64]; omega
 have hrw : IntKind.i64.wrap (R : Int) = (R : Int) := by rw [IntKind.wrap_i64]; omega
 rw [hR] at ha
 rw [hp] at hb
 refine tk 6 (.int .u8 (R : Int)) rfl (fun w' _ => by go_simp) trivial (fun K hK => ?_); go_simp; refine hK _ _ ?_; clear hK K
 refine tk 10 (.int .u8 32) rfl (fun w' _ => by go_simp) trivial (fun K hK => ?_); go_simp; refine hK _ _ ?_; clear hK K
 refine tk 3 (.int .i64 (Q : Int)) rfl (fun w' _ => by go_simp) trivial (fun K hK => ?_); go_simp; refine hK _ _ ?_; clear hK K
 refine tk 7 (.int .i64 (R : Int)) rfl (fun w' _ => by go_simp) trivial (fun K hK => ?_); go_simp; refine hK _ _ ?_; clear hK K
 refine tk 11 (.bool true) rfl (fun w' _ => by go_simp) trivial (fun K hK => ?_); go_simp; refine hK _ _ ?_; clear hK K
 refine tk 12 (.agg #[.int .i64 (Q : Int), .int .i64 (R : Int), .bool true, .string ⟨#[]⟩, .slice none 0 0]) rfl (fun w' _ => by go_simp) trivial (fun K hK => ?_); go_simp; refine hK _ _ ?_; clear hK K
 refine anyH_one 13 (by kernel_rfl) rfl (by rfl) (fun K hK => ?_); go_simp; refine hK _ _ trivial ?_; clear hK K
 refine anyH_one 14 (by kernel_rfl) rfl (by rfl) (fun K hK => ?_); go_simp; refine hK _ _ trivial ?_; clear hK K
 refine wpAnyH_done (by kernel_rfl) ?_ _
 simp only [Exit.then]
 refine ‹∀ (a : Act) (w : World), Code.wp _ _ _ a w → _› _ _ ?_
 have hlt := (gl r3)
 have m3 : Below w3.heap.size w3 (w3.alloc (.cells #[.int .i64 (Q : Int), .int .i64 (R : Int), .bool true, .string ⟨#[]⟩, .slice none 0 0] 45)) := (Below.refl _ _).alloc (Nat.le_refl _) _
 have x4 : (w3.alloc (.cells #[.int .i64 (Q : Int), .int .i64 (R : Int), .bool true, .string ⟨#[]⟩, .slice none 0 0] 45)).heap[w3.heap.size]? = some (.cells #[.int .i64 (Q : Int), .int .i64 (R : Int), .bool true, .string ⟨#[]⟩, .slice none 0 0] 45 (0, 0)) := alloc_at _ _ _ rfl
 have r4 := (m3.block _ hlt).trans r3
 have b4 := b3.trans (m3.mono b3.size)
 obtain ⟨G, hG⟩ : ∃ G, w3.heap.size = G := ⟨_, rfl⟩
 rw [hG] at x4 hlt m3
 rw [hG]
 have hs4 := m3.size
 generalize w3.alloc (.cells #[.int .i64 (Q : Int), .int .i64 (R : Int), .bool true, .string ⟨#[]⟩, .slice none 0 0] 45) = w4 at x4 r4 b4 hs4 ⊢
 clear m3 hG r3 b3
 have ex1 : (⟨S.toArray⟩ : ByteArray).extract n (n + m) = ⟨c.toArray⟩ := by exact ext_mid HSS.out hn hm
 have q2 : w4.cell? ⟨G, 2, none⟩ = some (.bool true) := (cell_of_heap x4 2).trans rfl
 go_wp2_with fail
 clear q2
 try rw [ex1]
 go_loopw [10] (fun cv wr => RgRel w G Q R k c cv wr) (fun cv _ => sLen cv)
 case atStart => exact ⟨[], [], c, .slice none 0 0, by first | rfl | (rw [ex1]), by cases kidsR (readR k) c.length c <;> rfl, by simp; omega, x4, r4, World.ownsRow_nil _ _ _ _, rfl, b4, fun j e u h => by simp at h⟩
 case round =>
  clear x4 r4 b4 hs4 ex1
  obtain ⟨dn, us, c2, v, rfl, hk2, hc2, hx, hrz, hown, hul, hbe, hkids⟩ := hrel
  obtain ⟨av, cv, hfv⟩ := own_shape hown
  subst hfv
  cases hcs : c2 with
  | nil =>
   rw [hcs] at hk2
   have hAns : RES = .ok (.mk (Q : Int) (R : Int) true [] dn, rest) := by
    rw [HRES.out, hk2]
    simp only [kidsR, List.append_nil]
    rw [hQ, hR]
   have HANS := hid hAns
   clear hk2 hAns hc2
   have hwG : w.heap.size < G := by omega
   have res := kids_own (P := fun g => G < g) hown hul (fun j e u q1 q2 => (hkids j e u q1 q2).mono (fun g hg _ => hg.1)) (fun g hg => hg)
   have HR := hid res
   clear hown hkids res hul
   go_wp2_with fail
   refine wp_region_held (S := fun w' => w'.heap[G]? = some (.cells #[.int .i64 (Q : Int), .int .i64 (R : Int), .bool true, .string ⟨#[]⟩, .slice av dn.length cv] 45 (0, 0))) (by kernel_rfl) ?_
   have x7 : wr.drew.heap[G]? = some (.cells #[.int .i64 (Q : Int), .int .i64 (R : Int), .bool true, .string ⟨#[]⟩, .slice av dn.length cv] 45 (0, 0)) := hx
   have r7 : wr.drew.heap[w.heap.size]? = some (.cells Ze 45 (0, 0)) := hrz
   have b7 : Below w.heap.size w wr.drew := hbe.drew
   have HR7 := hid (HR.out.kept (w' := wr.drew) (Q := fun g => G < g) (fun g hg _ => ⟨rfl, hg⟩))
   change wpAnyH _ _ _ _ _ _ _ _ wr.drew
   clear hx hrz hbe HR
   generalize wr.drew = w7 at x7 r7 b7 HR7 ⊢
   refine tk 0 (.agg #[.int .i64 (Q : Int), .int .i64 (R : Int), .bool true, .string ⟨#[]⟩, .slice av dn.length cv]) rfl (fun w' hS => by exact exec_loadRow 45 (.tmp 9) rfl G 45 _ (0, 0) (by rfl) hS _ Tryz.underlying45 rfl (by rfl)) x7 (fun K hK => ?_); go_simp; refine hK _ _ ?_; clear hK K
   refine tk 1 (.string ⟨S.toArray⟩) rfl (fun w' hS => by go_simp) x7 (fun K hK => ?_); go_simp; refine hK _ _ ?_; clear hK K
   refine tk 2 (.int .i64 (n : Int)) rfl (fun w' hS => by go_simp) x7 (fun K hK => ?_); go_simp; refine hK _ _ ?_; clear hK K
   refine tk 3 (.int .i64 (m : Int)) rfl (fun w' hS => by go_simp) x7 (fun K hK => ?_); go_simp; refine hK _ _ ?_; clear hK K
   have hw2 : IntKind.i64.wrap ((n : Int) + (m : Int)) = (n : Int) + (m : Int) := by rw [IntKind.wrap_i64]; omega
   refine tk 4 (.int .i64 ((n : Int) + (m : Int))) rfl (fun w' hS => by go_simp) x7 (fun K hK => ?_); go_simp; refine hK _ _ ?_; clear hK K
   have ex2 : (⟨S.toArray⟩ : ByteArray).extract (n + m) (n + m + rest.length) = ⟨rest.toArray⟩ := by exact ext_end HSS.out hn hm
   refine tk 5 (.string ⟨rest.toArray⟩) rfl (fun w' hS => by have hw3 : (0 : Int) ≤ (n : Int) + (m : Int) := (by omega); have hw4 : ((n : Int) + (m : Int)).toNat = n + m := (by omega); go_simp) x7 (fun K hK => ?_); go_simp; refine hK _ _ ?_; clear hK K
   have k8 := setRow_heap w7 w.heap.size _ #[.int .i64 (Q : Int), .int .i64 (R : Int), .bool true, .string ⟨#[]⟩, .slice av dn.length cv] _ _ r7
   have x8 := (setRow_other w7 w.heap.size G #[.int .i64 (Q : Int), .int .i64 (R : Int), .bool true, .string ⟨#[]⟩, .slice av dn.length cv] (by omega)).trans x7
   have b8 := below_row b7 (g := w.heap.size) (Nat.le_refl _) #[.int .i64 (Q : Int), .int .i64 (R : Int), .bool true, .string ⟨#[]⟩, .slice av dn.length cv]
   have K8 : KidsAt (fun g => w.heap.size ≤ g) (w7.setRow w.heap.size #[.int .i64 (Q : Int), .int .i64 (R : Int), .bool true, .string ⟨#[]⟩, .slice av dn.length cv]) (.slice av dn.length cv) dn := HR7.out.kept fun g hg _ => ⟨setRow_other _ _ _ _ (by omega), by omega⟩
   refine anyH_one 6 (by kernel_rfl) rfl (by rfl) (fun K hK => ?_)
   refine op_storeRow 45 (.tmp 4) (.tmp 81) rfl w.heap.size 45 _ #[.int .i64 (Q : Int), .int .i64 (R : Int), .bool true, .string ⟨#[]⟩, .slice av dn.length cv] (by rfl) (by rfl) r7 (by rfl) (by rfl) (by simp [Value.oneCell']) ?_
   refine hK _ _ x8 ?_; clear hK K
   refine anyH_one 7 (by kernel_rfl) rfl (by rfl) (fun K hK => ?_); go_simp; refine hK _ _ x8 ?_; clear hK K
   refine wpAnyH_done (by kernel_rfl) ?_ _
   simp only [Exit.then]
   refine ‹∀ (a : Act) (w : World), Code.wp _ _ _ a w → _› _ _ ?_
   go_wp2_with fail
   refine bodyPost_ret (v := .tuple #[.agg #[.int .i64 (Q : Int), .int .i64 (R : Int), .bool true, .string ⟨#[]⟩, .slice av dn.length cv], .string ⟨rest.toArray⟩]) ?_ rfl (by rw [HPR.out]; unfold RdQ; rw [HANS.out]; exact ⟨⟨.slice av dn.length cv, rfl, K8⟩, b8⟩)
   ·have hr := run_loadVar_row (P := Tryz.prog) (w7.setRow w.heap.size #[.int .i64 (Q : Int), .int .i64 (R : Int), .bool true, .string ⟨#[]⟩, .slice av dn.length cv]) w.heap.size 45 45 #[.int .i64 (Q : Int), .int .i64 (R : Int), .bool true, .string ⟨#[]⟩, .slice av dn.length cv] (0, 0) _ k8 (show Tryz.prog.underlying 45 = _ from Tryz.underlying45) (by rfl) (by rfl)
    simp [results, Tryz.f56, asAddr, hr, Result.andThen]
  | cons x0 t0 =>
   have hne : c2.isEmpty = false := by rw [hcs]; rfl
   have hst := kidsR_cons (readR_lt k) x0 t0
   rw [← hcs] at hst
   rw [hst] at hk2
   have hcl : c2.length ≤ 65536 := by omega
   clear hst
   rw [← hcs]
   have m1 : Below wr.heap.size wr (wr.alloc (.cells Ze 45)) := (Below.refl _ _).alloc (Nat.le_refl _) _
   have rk : (wr.alloc (.cells Ze 45)).heap[wr.heap.size]? = some (.cells Ze 45 (0, 0)) := alloc_at _ _ _ rfl
   have hlt := hown.lt
   have hGlt := (gl hx)
   have hsz := hbe.size
   have kr := IH.out c2 (wr.alloc (.cells Ze 45)) (by omega)
   unfold RdP RdQ at kr
   have hdc : ((d + 1 : Nat) : Int) = (d : Int) + 1 := by omega
   rw [hdc] at kr
   have HX := hid ((m1.block _ hGlt).trans hx)
   have HZ := hid ((m1.block _ (gl hrz)).trans hrz)
   have HO := hid hown
   have HKD := hid hkids
   have HB := hid (hbe.trans (m1.mono hsz))
   have HLT := hid hlt
   have hsm := m1.size
   have M1 := hid m1
   have RK := hid rk
   clear hdc hx hrz hown hkids hbe hlt m1 rk hcs
   cases hrr : readR k c2 with
   | error ec =>
    rw [hrr] at kr hk2
    simp only at hk2
    have hAns : RES = .error ec := by rw [HRES.out, hk2]
    have HANS := hid hAns
    clear hAns hk2 hrr
    go_wp2_with fail
    refine Calls.mono kr ?_
    rintro e w2 ⟨he, hb2⟩
    try simp only at he
    subst he
    refine ⟨rfl, ?_⟩
    rw [HPR.out]
    unfold RdQ
    rw [HANS.out]
    exact ⟨rfl, HB.out.trans (hb2.mono (by omega))⟩
   | ok pr =>
   obtain ⟨k2, c3⟩ := pr
   rw [hrr] at kr hk2
   simp only at hk2
   have hlen3 := readR_lt k _ _ _ hrr
   have HKS := hid hk2
   clear hk2 hrr
   go_wp2_with fail
   refine Calls.mono kr ?_
   rintro e w2 ⟨he, hb2⟩
   try simp only at he
   obtain ⟨u2, he1, hu2⟩ := he
   subst he1
   obtain ⟨a2, cc2, hf2⟩ := hu2.shape
   subst hf2
   have hkb := (hb2.block _ (gl RK.out)).trans RK.out
   have hx2 := (hb2.block _ (gl HX.out)).trans HX.out
   have hz2 := (hb2.block _ (gl HZ.out)).trans HZ.out
   have ho2 := own_below (own_below HO.out M1.out) hb2
   have hb3 := HB.out.trans (hb2.mono (by omega))
   have hs2 := hb2.size
   have hBlt : wr.heap.size < (wr.alloc (.cells Ze 45)).heap.size := (gl RK.out)
   have hold2 : ∀ g, g < wr.heap.size → w2.heap[g]? = wr.heap[g]? := fun g hg => (hb2.block g (by omega)).trans (M1.out.block g hg)
   -- the kid is written into its block
   have x3 : (w2.setRow wr.heap.size (elA k2 (.slice a2 k2.kids.length cc2))).heap[G]? = some (.cells #[.int .i64 (Q : Int), .int .i64 (R : Int), .bool true, .string ⟨#[]⟩, .slice av dn.length cv] 45 (0, 0)) := (setRow_other w2 wr.heap.size G _ (by omega)).trans hx2
   have rz3 := (setRow_other w2 wr.heap.size w.heap.size (elA k2 (.slice a2 k2.kids.length cc2)) (by omega)).trans hz2
   have k3 : (w2.setRow wr.heap.size (elA k2 (.slice a2 k2.kids.length cc2))).heap[wr.heap.size]? = some (.cells #[.int .i64 k2.cls, .int .i64 k2.tag, .bool k2.cons, .string ⟨k2.bytes.toArray⟩, .slice a2 k2.kids.length cc2] 45 (0, 0)) := setRow_heap w2 wr.heap.size _ _ _ _ hkb
   have ho3 : (w2.setRow wr.heap.size (elA k2 (.slice a2 k2.kids.length cc2))).ownsRow (G + 1) 45 5 (.slice av dn.length cv) dn.length (flatE dn us) := ho2.kept (grown_row w2 wr.heap.size _) (.inr (fun h => by have := (HLT.out _ h).2; omega))
   have b3 : Below w.heap.size w (w2.setRow wr.heap.size (elA k2 (.slice a2 k2.kids.length cc2))) := below_row hb3 (by omega) _
   have hold3 : ∀ g, g < wr.heap.size → (w2.setRow wr.heap.size (elA k2 (.slice a2 k2.kids.length cc2))).heap[g]? = wr.heap[g]? := fun g hg => (setRow_other w2 wr.heap.size g _ (by omega)).trans (hold2 g hg)
   have hnew3 : ∀ g, wr.heap.size < g → (w2.setRow wr.heap.size (elA k2 (.slice a2 k2.kids.length cc2))).heap[g]? = w2.heap[g]? := fun g hg => setRow_other w2 wr.heap.size g _ (by omega)
   have hsz3 : w2.heap.size ≤ (w2.setRow wr.heap.size (elA k2 (.slice a2 k2.kids.length cc2))).heap.size := by simp [World.setRow]
   have HU := hid hu2
   have HOLD := hid hold3
   have HNEW := hid hnew3
   have HK2 := hid hkb
   clear hu2 hold2 hold3 hnew3 kr hb2 hx2 hz2 ho2 hb3 hkb HX HZ HO HB M1 RK
   have HO3 := hid ho3
   have HX3 := hid x3
   have HZ3 := hid rz3
   have HK3 := hid k3
   have HB3 := hid b3
   clear ho3 x3 rz3 k3 b3
   go_wp2_with (first
    | (refine wpList_storeRow rfl 45 (.tmp 11) (.tmp 73) rfl wr.heap.size 45 _ (elA k2 (.slice a2 k2.kids.length cc2)) (by rfl) (by rfl) HK2.out (by rfl) (by rfl) (by simp [elA, Value.oneCell']) ?_; generalize w2.setRow wr.heap.size (elA k2 (.slice a2 k2.kids.length cc2)) = w3 at HO3 HX3 HZ3 HK3 HB3 HOLD HNEW hsz3 ⊢; have q4 : w3.cell? ⟨G, 4, none⟩ = some (.slice av dn.length cv) := (cell_of_heap HX3.out 4).trans rfl)
    | (refine wpList_loadRow rfl 45 (.tmp 11) rfl wr.heap.size 45 _ (0, 0) (by rfl) HK3.out _ Tryz.underlying45 rfl (by rfl) ?_)
    | (at_builtin; refine wpList_append_lies _ rfl (.tmp 76) (.tmp 78) 43 rfl (G + 1) 45 i0 _ 5 64 Tryz.underlying43 hi0 hz0 hz1 hz2 rfl (by decide) (.slice av dn.length cv) dn.length (flatE dn us) rfl (HO3.out.alloc _) ⟨w3.heap.size, 0, none⟩ 1 1 [.int .i64 k2.cls, .int .i64 k2.tag, .bool k2.cons, .string ⟨k2.bytes.toArray⟩, .slice a2 k2.kids.length cc2] rfl rfl (World.news_of_block (alloc_at _ _ _ rfl)) (by simp [Value.oneCell']) (by decide) (by unfold maxLen; omega) (by omega) (by simp; omega) (w3.heap.size + 1) (by simp) ?_; intro g5 cap5 w5 ho5 hg5 hat5 hlt5; clear q4; have x5 := (hg5.block G (by simp; omega) (fun h => by have := (HLT.out G h.symm).1; omega)).trans ((alloc_old _ _ _ (by omega)).trans HX3.out); have q5 : w5.cell? ⟨G, 4, none⟩ = some (.slice av dn.length cv) := (cell_of_heap x5 4).trans rfl; have z5 := Lib.frozen_of_heap x5 4))
   have hl5 := ho5.lt
   have x6 : (w5.setCell ⟨G, 4, none⟩ (.slice (some ⟨g5, 0, none⟩) (dn.length + 1) cap5)).heap[G]? = some (.cells #[.int .i64 (Q : Int), .int .i64 (R : Int), .bool true, .string ⟨#[]⟩, (.slice (some ⟨g5, 0, none⟩) (dn.length + 1) cap5)] 45 (0, 0)) := setCell_at (i := 4) (u := (.slice (some ⟨g5, 0, none⟩) (dn.length + 1) cap5)) x5
   have hgG : G < g5 := by have := (hl5 g5 rfl).1; omega
   have hG3 : G < w3.heap.size := (gl HX3.out)
   have rz5 : w5.heap[w.heap.size]? = some (.cells Ze 45 (0, 0)) := (hg5.block w.heap.size (by simp; omega) (fun h => by have := (HLT.out _ h.symm).1; omega)).trans ((alloc_old _ _ _ (by omega)).trans HZ3.out)
   have rz6 := (Below.heap_setCell w5 ⟨G, 4, none⟩ (.slice (some ⟨g5, 0, none⟩) (dn.length + 1) cap5) w.heap.size (by show w.heap.size ≠ G; omega)).trans rz5
   have b6 := (((HB3.out.alloc (by omega) (.cells #[.int .i64 k2.cls, .int .i64 k2.tag, .bool k2.cons, .string ⟨k2.bytes.toArray⟩, (.slice a2 k2.kids.length cc2)] 45)).grown hg5 (by simp; omega) (fun b hb => by have := (HLT.out b hb).1; omega))).setCell (p := ⟨G, 4, none⟩) (by show w.heap.size ≤ G; omega) (.slice (some ⟨g5, 0, none⟩) (dn.length + 1) cap5)
   have own6 : (w5.setCell ⟨G, 4, none⟩ (.slice (some ⟨g5, 0, none⟩) (dn.length + 1) cap5)).ownsRow (G + 1) 45 5 (.slice (some ⟨g5, 0, none⟩) (dn.length + 1) cap5) (dn ++ [k2]).length (flatE (dn ++ [k2]) (us ++ [(.slice a2 k2.kids.length cc2)])) := by
    rw [flatE_snoc _ _ _ _ hul, List.length_append]
    exact ho5.kept (grown_set w5 G 4 _) (.inr (fun h => by have := (hl5 _ h).1; omega))
   have hoth : ∀ g', g' ≠ G → g' < w3.heap.size → (.slice av dn.length cv : Value).ownBlock ≠ some g' → (w5.setCell ⟨G, 4, none⟩ (.slice (some ⟨g5, 0, none⟩) (dn.length + 1) cap5)).heap[g']? = w3.heap[g']? ∧ ((.slice (some ⟨g5, 0, none⟩) (dn.length + 1) cap5) : Value).ownBlock ≠ some g' := by
    intro g' hne hg' hno
    refine ⟨(Below.heap_setCell w5 ⟨G, 4, none⟩ (.slice (some ⟨g5, 0, none⟩) (dn.length + 1) cap5) g' hne).trans ((hg5.block g' (by simp; omega) (fun h => hno h.symm)).trans (alloc_old _ _ _ hg')), fun h => ?_⟩
    rcases hat5 with h5 | h5
    ·have : g5 = g' := by simpa [Value.ownBlock] using h
     subst this
     exact hno h5
    ·have : g5 = g' := by simpa [Value.ownBlock] using h
     omega
   refine ⟨⟨dn ++ [k2], us ++ [(.slice a2 k2.kids.length cc2)], c3, (.slice (some ⟨g5, 0, none⟩) (dn.length + 1) cap5), rfl, by rw [HKS.out]; cases kidsR (readR k) c3.length c3 <;> simp, by simp; omega, x6, rz6, own6, by simp [hul], b6, fun j e' u' q1 q2 => ?_⟩, ?_⟩
   ·by_cases hjk : j < dn.length
    ·rw [List.getElem?_append_left hjk] at q1
     rw [List.getElem?_append_left (by rw [hul]; exact hjk)] at q2
     refine (HKD.out j e' u' q1 q2).kept fun g' hg' hlt' => ?_
     obtain ⟨r1, r2⟩ := hoth g' (by omega) (by omega) hg'.2
     exact ⟨r1.trans (HOLD.out g' hlt'), hg'.1, r2⟩
    ·have hj : j = dn.length := by
      have := (List.getElem?_eq_some_iff.1 q2).1
      simp [hul] at this
      omega
     subst hj
     rw [List.getElem?_append_right (Nat.le_refl _), Nat.sub_self] at q1
     rw [List.getElem?_append_right (by rw [hul]; exact Nat.le_refl _), hul, Nat.sub_self] at q2
     cases q1
     cases q2
     refine HU.out.kept fun g' hg' hlt' => ?_
     obtain ⟨r1, r2⟩ := hoth g' (by omega) (by omega) (fun h => by have := (HLT.out g' h).2; omega)
     exact ⟨r1.trans (HNEW.out g' (by omega)), by omega, r2⟩
   ·show (⟨c3.toArray⟩ : ByteArray).size < (⟨c2.toArray⟩ : ByteArray).size
    rw [Lib.size_mk, Lib.size_mk]
    exact hlen3
end Go.Proofs.YthjaiigijbjloaaGreatDoor
