/- RdG, AlvX. -/
import Derived.Test.YthjaiigijbjloaaGreatDoorQ47
namespace Go.Proofs.YthjaiigijbjloaaGreatDoor
open Go.RowKit Go.Lib
def sgStep (v : Int) (b : UInt8) : Int := IntKind.i64.wrap (v * 256 + (b.toNat : Int))
def sgI : List UInt8 → Int
 | [] => 0
 | b :: r => r.foldl sgStep (if b.toNat < 128 then (b.toNat : Int) else (b.toNat : Int) - 256)
theorem sgI_snoc (b : UInt8) (r : List UInt8) (c : UInt8) : sgI (b :: (r ++ [c])) = sgStep (sgI (b :: r)) c := by simp [sgI]
def SgRel (w : World) (b : UInt8) (r : List UInt8) (v i : Value) (wr : World) : Prop := ∃ k : Nat, i = .int .i64 ((k + 1 : Nat) : Int) ∧ k ≤ r.length ∧ v = .int .i64 (sgI (b :: r.take k)) ∧ wr = w
set_option maxRecDepth 100000 in
set_option maxHeartbeats 2000000 in
theorem Signed_any (b : UInt8) (r : List UInt8) (h8 : r.length ≤ 7) (w : World) :
  Calls Tryz.prog 57 #[.string ⟨(b :: r).toArray⟩] w fun e w' => e = .returned (.tuple #[.int .i64 (sgI (b :: r)), .int .i64 0]) ∧ w' = w := by
 obtain ⟨S, hS⟩ : ∃ S, b :: r = S := ⟨_, rfl⟩
 have hl : S.length = r.length + 1 := by rw [← hS]; rfl
 have hp0 : 0 < (⟨S.toArray⟩ : ByteArray).size := by rw [Lib.size_mk]; omega
 have e0 := str_at S 0 b (by rw [← hS]; rfl) hp0
 rw [hS]
 have HS := hid hS
 have f1 : decide ((S.length : Int) < 1) = false := decide_eq_false (by omega)
 have f2 : decide ((8 : Int) < (S.length : Int)) = false := decide_eq_false (by omega)
 have f3 : decide ((S.length : Int) > 8) = false := decide_eq_false (by omega)
 have f4 : (0 : Int) < (S.length : Int) := by omega
 have hb8 := UInt8.toNat_lt b
 have hi8 : IntKind.i8.wrap (b.toNat : Int) = (if b.toNat < 128 then (b.toNat : Int) else (b.toNat : Int) - 256) := by
  by_cases hbb : b.toNat < 128 <;> simp [IntKind.wrap, IntKind.bits, IntKind.signed, hbb] <;> omega
 obtain ⟨B, hB⟩ : ∃ B : Int, (if b.toNat < 128 then (b.toNat : Int) else (b.toNat : Int) - 256) = B := ⟨_, rfl⟩
 have hB0 : -128 ≤ B ∧ B ≤ 127 := by rw [← hB]; split <;> omega
 rw [hB] at hi8
 have hw64 : IntKind.i64.wrap B = B := by rw [IntKind.wrap_i64]; omega
 have hsg0 : sgI [b] = B := by rw [← hB]; rfl
 have HSG := hid hsg0
 have HL := hid hl
 clear hS hsg0 hB hb8 hB0 hl
 go_enter Tryz.func57, Tryz.ntmps57
 go_wp2_with fail
 go_loopw [4, 5] (fun v i wr => SgRel w b r v i wr) (fun _ i _ => S.length - (RowKit.intOf i).toNat)
 case atStart => exact ⟨0, rfl, Nat.zero_le _, by rw [show r.take 0 = [] from rfl, HSG.out], rfl⟩
 case round =>
  clear e0 hi8 hw64
  obtain ⟨k, rfl, hk, rfl, hw⟩ := hrel
  rw [hw]
  clear hw
  by_cases hkl : k < r.length
  ·obtain ⟨c, hc⟩ : ∃ c, r[k]? = some c := ⟨_, by simp [hkl]; rfl⟩
   obtain ⟨K1, hK1⟩ : ∃ n, k + 1 = n := ⟨_, rfl⟩
   have hl := HL.out
   have hp1 : K1 < (⟨S.toArray⟩ : ByteArray).size := by rw [Lib.size_mk]; omega
   have e1 := str_at S K1 c (by rw [← hK1, ← HS.out]; simpa using hc) hp1
   have i1 : decide ((K1 : Int) < (S.length : Int)) = true := decide_eq_true (by omega)
   have i2 : (K1 : Int) < (S.length : Int) := by omega
   have hts : sgI (b :: r.take (k + 1)) = sgStep (sgI (b :: r.take k)) c := by rw [List.take_add_one, hc]; exact sgI_snoc _ _ _
   obtain ⟨V, hV⟩ : ∃ V, sgI (b :: r.take k) = V := ⟨_, rfl⟩
   rw [hV] at hts ⊢
   have hc8 := UInt8.toNat_lt c
   have hor : bits BinOp.or IntKind.i64 (IntKind.i64.wrap (V * 256)) (c.toNat : Int) = sgStep V c := by
    rw [orLow _ _ (by rw [IntKind.wrap_i64]; omega) hc8]
    unfold sgStep
    rw [IntKind.wrap_i64, IntKind.wrap_i64, IntKind.wrap_i64]
    omega
   have hor2 : bits BinOp.or IntKind.i64 (wrap64 (V * 256)) (c.toNat : Int) = sgStep V c := by
    have e : wrap64 (V * 256) = IntKind.i64.wrap (V * 256) := by first | rfl | (rw [IntKind.wrap_i64]; unfold wrap64; split <;> omega) | (rw [IntKind.wrap_i64]; unfold wrap64; omega) | simp [wrap64, IntKind.wrap_i64]
    rw [e]; exact hor
   have HOR := hid hor2
   clear hor hor2
   have hcw : IntKind.i64.wrap (c.toNat : Int) = (c.toNat : Int) := by rw [IntKind.wrap_i64]; omega
   have HTS := hid hts
   have hK8 : K1 ≤ 8 := by omega
   clear hts hc hV hl
   rw [hK1]
   have HK1 := hid hK1
   clear hK1
   go_wp2_with fail
   exact ⟨⟨k + 1, by rw [HK1.out]; go_num, by omega, by rw [HTS.out]; exact congrArg _ HOR.out, rfl⟩, by have h1 := HK1.out; have h2 := HL.out; simp only [RowKit.intOf]; omega⟩
  ·obtain rfl : k = r.length := by omega
   rw [List.take_of_length_le (Nat.le_refl _), HS.out, ← HL.out]
   have i1 : decide ((S.length : Int) < (S.length : Int)) = false := decide_eq_false (by omega)
   go_wp2_with fail
   go_ret2
   exact ⟨rfl, rfl⟩
set_option maxRecDepth 100000 in
set_option maxHeartbeats 2000000 in
theorem Signed_bad (S : List UInt8) (h8 : S.length < 1 ∨ 8 < S.length) (hl : S.length ≤ 1000000000) (w : World) :
  Calls Tryz.prog 57 #[.string ⟨S.toArray⟩] w fun e w' => e = .returned (.tuple #[.int .i64 0, .int .i64 1]) ∧ w' = w := by
 rcases h8 with h | h
 ·have f1 : decide ((S.length : Int) < 1) = true := decide_eq_true (by omega)
  go_enter Tryz.func57, Tryz.ntmps57
  go_wp2_with fail
  go_ret2
  exact ⟨rfl, rfl⟩
 ·have f1 : decide ((S.length : Int) < 1) = false := decide_eq_false (by omega)
  have f2 : decide ((8 : Int) < (S.length : Int)) = true := decide_eq_true (by omega)
  have f3 : decide ((S.length : Int) > 8) = true := decide_eq_true (by omega)
  go_enter Tryz.func57, Tryz.ntmps57
  go_wp2_with fail
  go_ret2
  exact ⟨rfl, rfl⟩
def sgnE (S : List UInt8) : Int × Int := if 1 ≤ S.length ∧ S.length ≤ 8 then (sgI S, 0) else (0, 1)
theorem Signed_all (S : List UInt8) (hl : S.length ≤ 1000000000) (w : World) :
  Calls Tryz.prog 57 #[.string ⟨S.toArray⟩] w fun e w' => e = .returned (.tuple #[.int .i64 (sgnE S).1, .int .i64 (sgnE S).2]) ∧ w' = w := by
 unfold sgnE
 by_cases h : 1 ≤ S.length ∧ S.length ≤ 8
 ·rw [if_pos h]
  cases S with
  | nil => simp at h
  | cons b r => simp only [List.length_cons] at h; exact Signed_any b r (by omega) w
 ·rw [if_neg h]
  exact Signed_bad S (by omega) hl w
def getI (el : El) (cl t : Int) : Int × Int := if isE el cl t false && decide (1 ≤ el.bytes.length ∧ el.bytes.length ≤ 8) then (sgI el.bytes, 0) else (0, 24)
set_option maxRecDepth 100000 in
set_option maxHeartbeats 2000000 in
theorem GetInt_any (el : El) (u : Value) (cl t : Int) (w : World) (h : KidsAt (fun _ => True) w u el.kids) (hl : el.bytes.length ≤ 1000000000) :
  Calls Tryz.prog 21 #[.agg (elA el u), .int .i64 cl, .int .i64 t] w fun e w' => e = .returned (.tuple #[.int .i64 (getI el cl t).1, .int .i64 (getI el cl t).2]) ∧ Below w.heap.size w w' := by
 obtain ⟨E, hE⟩ : ∃ E, elA el u = E := ⟨_, rfl⟩
 have b1 : Below w.heap.size w (w.alloc (.cells E 45)) := (Below.refl _ _).alloc (Nat.le_refl _) _
 have r1 : (w.alloc (.cells E 45)).heap[w.heap.size]? = some (.cells E 45 (0, 0)) := alloc_at _ _ _ rfl
 have ks := Signed_all el.bytes hl (w.alloc (.cells E 45))
 have k := is_any el u cl t false (w.alloc (.cells E 45)) (h.below b1)
 obtain ⟨I, hI⟩ : ∃ b, isE el cl t false = b := ⟨_, rfl⟩
 obtain ⟨GA, hGA⟩ : ∃ g, (getI el cl t).1 = g := ⟨_, rfl⟩
 obtain ⟨GB, hGB⟩ : ∃ g, (getI el cl t).2 = g := ⟨_, rfl⟩
 rw [hE, hI] at k
 rw [hE, hGA, hGB]
 have hq3 : E[3]? = some (.string ⟨el.bytes.toArray⟩) := by rw [← hE]; rfl
 have hEs : E.size = 5 := by rw [← hE]; rfl
 have HQ3 := hid hq3
 have HES := hid hEs
 obtain ⟨SA, hSA⟩ : ∃ g, (sgnE el.bytes).1 = g := ⟨_, rfl⟩
 obtain ⟨SB, hSB⟩ : ∃ g, (sgnE el.bytes).2 = g := ⟨_, rfl⟩
 rw [hSA, hSB] at ks
 have key : (I = true ∧ SB = 0 ∧ GA = SA ∧ GB = 0) ∨ (I = true ∧ SB = 1 ∧ GA = 0 ∧ GB = 24) ∨ (I = false ∧ GA = 0 ∧ GB = 24) := by
  rw [← hGA, ← hGB, ← hSA, ← hSB, ← hI]
  unfold getI sgnE
  by_cases h1 : 1 ≤ el.bytes.length ∧ el.bytes.length ≤ 8 <;> cases isE el cl t false <;> simp [h1]
 clear hE hI hGA hGB hSA hSB hq3 hEs h hl
 rcases key with ⟨rfl, rfl, rfl, rfl⟩ | ⟨rfl, rfl, rfl, rfl⟩ | ⟨rfl, rfl, rfl⟩
 all_goals
  go_enter Tryz.func21, Tryz.ntmps21
  go_upto_region 1 with fail
  generalize w.alloc (.cells E 45) = w1 at b1 r1 k ks ⊢
  have q3 : w1.cell? ⟨w.heap.size, 3, none⟩ = some (.string ⟨el.bytes.toArray⟩) := (cell_of_heap r1 3).trans HQ3.out
  go_wp2_with fail
  refine Calls.mono ks ?_
  rintro e w2 ⟨rfl, rfl⟩
  clear q3 ks
  go_wp2_with (refine wpList_loadRow rfl 45 (.tmp 3) rfl w.heap.size 45 _ (0, 0) (by rfl) r1 _ Tryz.underlying45 rfl (by rw [HES.out]; rfl) ?_)
  refine Calls.mono k ?_
  rintro e w3 ⟨rfl, hb3⟩
  have b3 := b1.trans (hb3.mono b1.size)
  clear k hb3 r1 b1
  go_wp2_with fail
  go_ret2
  exact ⟨rfl, b3⟩
theorem sgStep_small (v : Int) (b : UInt8) (h0 : 0 ≤ v) (h1 : v < 1099511627776) : sgStep v b = v * 256 + (b.toNat : Int) := by
 have := UInt8.toNat_lt b
 unfold sgStep
 rw [IntKind.wrap_i64]
 omega
theorem sg2 (a b : UInt8) (h : a.toNat < 128) : sgI [a, b] = (a.toNat : Int) * 256 + (b.toNat : Int) := by
 show sgStep (if a.toNat < 128 then (a.toNat : Int) else (a.toNat : Int) - 256) b = _
 rw [if_pos h, sgStep_small _ _ (by omega) (by omega)]
theorem sg3 (a b c : UInt8) (h : a.toNat < 128) : sgI [a, b, c] = ((a.toNat : Int) * 256 + (b.toNat : Int)) * 256 + (c.toNat : Int) := by
 have h2 := UInt8.toNat_lt b
 rw [show sgI [a, b, c] = sgStep (sgI [a, b]) c from rfl, sg2 a b h, sgStep_small _ _ (by omega) (by omega)]
theorem sg4 (a b c d : UInt8) (h : a.toNat < 128) : sgI [a, b, c, d] = (((a.toNat : Int) * 256 + (b.toNat : Int)) * 256 + (c.toNat : Int)) * 256 + (d.toNat : Int) := by
 have h2 := UInt8.toNat_lt b
 have h3 := UInt8.toNat_lt c
 rw [show sgI [a, b, c, d] = sgStep (sgI [a, b, c]) d from rfl, sg3 a b c h, sgStep_small _ _ (by omega) (by omega)]
theorem sgI_sgB (n : Nat) (h : n ≤ 2147483647) : sgI (sgB n) = (n : Int) ∧ 1 ≤ (sgB n).length ∧ (sgB n).length ≤ 8 := by
 have hl := sgB_len n
 refine ⟨?_, hl.1, by omega⟩
 have u : ∀ k, (UInt8.ofNat k).toNat = k % 256 := fun k => by simp [UInt8.toNat_ofNat']
 unfold sgB
 by_cases h1 : n < 128
 ·rw [if_pos h1]
  show (if (UInt8.ofNat n).toNat < 128 then ((UInt8.ofNat n).toNat : Int) else _) = _
  rw [u, if_pos (by omega)]
  omega
 ·rw [if_neg h1]
  by_cases h2 : n < 32768
  ·rw [if_pos h2, sg2 _ _ (by rw [u]; omega), u, u]
   omega
  ·rw [if_neg h2]
   by_cases h3 : n < 8388608
   ·rw [if_pos h3, sg3 _ _ _ (by rw [u]; omega), u, u, u]
    omega
   ·rw [if_neg h3, sg4 _ _ _ _ (by rw [u]; omega), u, u, u, u]
    omega
theorem MgM.nil (w : World) (m : Mg) (h1 : m.filt = .slice none 0 0) (h2 : m.sel = .slice none 0 0) (h3 : m.mods = .slice none 0 0) (h4 : m.attrs = .slice none 0 0) (h5 : m.ctl = .slice none 0 0) : MgM w m {} :=
 ⟨⟨none, 0, h1, by simp, fun h => absurd rfl h⟩, ⟨none, 0, h2, by simp, fun h => absurd rfl h⟩, ⟨none, 0, h3, by simp, fun h => absurd rfl h⟩, ⟨none, 0, h4, by simp, fun h => absurd rfl h⟩, ⟨none, 0, h5, by simp, fun h => absurd rfl h⟩⟩
theorem LsOk.nil (m : Mg) (h1 : m.dn.length ≤ 100000000) (h2 : m.secret.length ≤ 100000000) (h3 : m.newRdn = []) (h4 : m.newSup = []) (h5 : m.typ = []) (h6 : m.value = []) (h7 : m.oid = []) (h8 : m.matched = []) (h9 : m.text = []) : LsOk m {} :=
 ⟨h1, h2, by simp [h3], by simp [h4], by simp [h5], by simp [h6], by simp [h7], by simp [h8], by simp [h9], ⟨by simp, by simp⟩, by simp, by simp, by simp, by simp, ⟨by simp, by simp⟩, by simp, by simp⟩
theorem Write_alivg (w : World) (hE : Env w) : Calls Tryz.prog 12 #[.agg (Mg.row { id := 2, op := 0, ver := 3, secret := [115] })] w fun e w' => e = .returned (.tuple #[.string ⟨#[48, 13, 2, 1, 2, 96, 8, 2, 1, 3, 4, 0, 128, 1, 115]⟩, .int .i64 0]) ∧ Below w.heap.size w w' := by
 have h : writeM { id := 2, op := 0, ver := 3, secret := [115] } {} = ([48, 13, 2, 1, 2, 96, 8, 2, 1, 3, 4, 0, 128, 1, 115], 0) := by decide
 have k := Write_any { id := 2, op := 0, ver := 3, secret := [115] } {} w (MgM.nil w _ rfl rfl rfl rfl rfl) (LsOk.nil _ (by simp) (by simp) rfl rfl rfl rfl rfl rfl rfl) hE
 rw [h] at k
 exact k
theorem valid_delg (n : Int) (dn : List UInt8) (h0 : 0 ≤ n) (h1 : n ≤ 2147483647) (w : World) :
  Calls Tryz.prog 14 #[.agg (msgD n 10 dn)] w fun e w' => e = .returned (.bool true) ∧ Below w.heap.size w w' := by
 have h : validB { id := n, op := 10, dn := dn } {} = true := by
  simp [validB, kindB, rngB, bareM, plEq, lensB, keptF, keptS, keptM, keptA, h0, h1]
 have k := valid_any { id := n, op := 10, dn := dn } {} w (MgM.nil w _ rfl rfl rfl rfl rfl) (by simp) (by simp) (fun h => by cases h)
 rw [h] at k
 exact k
set_option maxRecDepth 100000 in
set_option maxHeartbeats 4000000 in
theorem Read_delg (b : List UInt8) (n : Nat) (hn : n ≤ 127) (dn : List UInt8) (hd : dn.length ≤ 1000000) (hr : readR 20 b = .ok (delE n dn, [])) (hl : b.length ≤ 1000000) (w : World) :
  Calls Tryz.prog 17 #[.string ⟨b.toArray⟩] w fun e w' => e = .returned (.tuple #[.agg (msgD n 10 dn), .int .i64 0]) ∧ Below w.heap.size w w' := by
 have hmf : ∀ (fn : Fn) (first cap : Array Value) (w : World), (Instr.makeFunc fn first cap).run Tryz.prog w = .ok (.func fn first cap) w := fun _ _ _ _ => rfl
 have kv := fun w => hid (valid_delg n dn (by omega) (by omega) w)
 have kd := fun A M hAM u w h1 h2 h3 => reads_delete n hn dn hd A M hAM u w h1 h2 h3
 obtain ⟨F, hF⟩ : ∃ F, msgD (n : Int) 10 dn = F := ⟨_, rfl⟩
 rw [hF] at kv kd ⊢
 have KD := hid kd
 clear kd
 have hF1 : F.all (·.oneCell') = true := by rw [← hF]; simp [msgD, Value.oneCell']
 have hF2 : F.size = 28 := by rw [← hF]; rfl
 have HF1 := hid hF1
 have HF2 := hid hF2
 clear hF hF1 hF2
 have t1 : (w.alloc (.cells Zm 28)).heap[w.heap.size]? = some (.cells (msgD 0 0 []) 28 (0, 0)) := alloc_at _ _ _ rfl
 have b1 : Below w.heap.size w (w.alloc (.cells Zm 28)) := (Below.refl _ _).alloc (Nat.le_refl _) _
 have kr := Read_ok b (delE n dn) hr hl (w.alloc (.cells Zm 28))
 clear hr hl
 go_enter Tryz.func17, Tryz.ntmps17
 go_wp2_with fail
 generalize w.alloc (.cells Zm 28) = w1 at t1 b1 kr ⊢
 refine Calls.mono kr ?_
 rintro e w2 ⟨⟨u, rfl, hu⟩, hb2⟩
 have t2 := (hb2.block _ (gl t1)).trans t1
 have b2 := b1.trans (hb2.mono b1.size)
 have hs1 := b1.size
 clear kr hb2 t1 b1
 obtain ⟨a, c, hsl⟩ := hu.shape
 subst hsl
 obtain ⟨E, hE⟩ : ∃ E, elA (delE n dn) (.slice a (delE n dn).kids.length c) = E := ⟨_, rfl⟩
 have hE1 : E.all (·.oneCell') = true := by rw [← hE]; simp [elA, Value.oneCell']
 have hE2 : E.size = 5 := by rw [← hE]; rfl
 rw [hE]
 have x3 : (w2.alloc (.cells Ze 45)).heap[w2.heap.size]? = some (.cells Ze 45 (0, 0)) := alloc_at _ _ _ rfl
 have g3 : Below w2.heap.size w2 ((w2.alloc (.cells Ze 45)).setRow w2.heap.size E) := below_row ((Below.refl _ _).alloc (Nat.le_refl _) _) (Nat.le_refl _) E
 have e3 := setRow_heap (w2.alloc (.cells Ze 45)) w2.heap.size _ E _ _ x3
 have HE := hid hE
 have HE1 := hid hE1
 have HE2 := hid hE2
 have X3 := hid x3
 have hs2 := b2.size
 clear hE hE1 hE2 x3
 have u3 := hid (hu.below g3)
 have t3 := (g3.block _ (gl t2)).trans t2
 have b3 := b2.trans (g3.mono b2.size)
 have ht := (gl t2)
 clear t2 b2 hu g3
 go_wp2_with (refine wpList_storeRow rfl 45 (.tmp 4) (.tmp 10) rfl w2.heap.size 45 _ E (by rfl) (by rfl) X3.out (by rw [HE2.out]; rfl) (by rw [HE2.out]; rfl) HE1.out ?_)
 have m4 : (((w2.alloc (.cells Ze 45)).setRow w2.heap.size E).alloc (.cells Zm 28)).heap[w2.heap.size + 1]? = some (.cells (msgD 0 0 []) 28 (0, 0)) := alloc_at _ _ _ (by simp [World.setRow])
 have g4 := (Below.refl ((w2.alloc (.cells Ze 45)).setRow w2.heap.size E).heap.size ((w2.alloc (.cells Ze 45)).setRow w2.heap.size E)).alloc (Nat.le_refl _) (.cells Zm 28)
 have b4 := b3.trans (g4.mono b3.size)
 have e4 := (g4.block _ (gl e3)).trans e3
 have t4 := (g4.block _ (gl t3)).trans t3
 have u4 := u3.out.below g4
 clear b3 e3 t3 u3 X3 g4
 generalize ((w2.alloc (.cells Ze 45)).setRow w2.heap.size E).alloc (.cells Zm 28) = w4 at m4 b4 e4 t4 u4 ⊢
 rw [← HE.out] at e4
 have kk := KD.out w2.heap.size (w2.heap.size + 1) (by omega) (.slice a (delE n dn).kids.length c) w4 e4 m4 (u4.kept fun g hg hl => ⟨rfl, trivial⟩)
 refine Calls.mono kk ?_
 rintro e w5 ⟨rfl, m5, hR5⟩
 have t5 := (hR5.block _ (gl t4) (by omega)).trans t4
 have hm4 := (gl m4)
 have b5 : Below w.heap.size w w5 := b4.trans ((hR5.mono b4.size).below (by omega))
 clear kk m4 b4 e4 t4 u4 hR5
 have kw := (kv w5).out
 go_wp2_with (refine wpList_loadRowG (by rfl) 28 (.tmp 6) rfl (w2.heap.size + 1) 28 _ (0, 0) (by rfl) m5 _ Tryz.underlying28 rfl (by rw [HF2.out]; rfl) ?_)
 refine Calls.mono kw ?_
 rintro e w6 ⟨rfl, hb6⟩
 have t6 := (hb6.block _ (gl t5)).trans t5
 have m6 := (hb6.block _ (gl m5)).trans m5
 have b6 := b5.trans (hb6.mono b5.size)
 clear kw hb6 t5 m5 b5
 have b7 := below_row b6 (g := w.heap.size) (Nat.le_refl _) F
 have t7 := setRow_heap w6 w.heap.size _ F _ _ t6
 go_wp2_with (first
  | (refine wpList_loadRow rfl 28 (.tmp 6) rfl (w2.heap.size + 1) 28 _ (0, 0) (by rfl) m6 _ Tryz.underlying28 rfl (by rw [HF2.out]; rfl) ?_)
  | (refine wpList_storeRow rfl 28 (.tmp 2) (.tmp 25) rfl w.heap.size 28 _ F (by rfl) (by rfl) t6 (by rw [HF2.out]; rfl) (by rw [HF2.out]; rfl) HF1.out ?_))
 generalize w6.setRow w.heap.size F = w7 at b7 t7 ⊢
 refine bodyPost_ret (v := .tuple #[.agg F, .int .i64 0]) ?_ rfl ⟨rfl, b7⟩
 have hr := run_loadVar_row (P := Tryz.prog) w7 w.heap.size 28 28 F (0, 0) _ t7 (show Tryz.prog.underlying 28 = _ from Tryz.underlying28) (by rfl) (by rw [HF2.out]; rfl)
 simp [results, Tryz.f17]
 show ((Sem.run Tryz.prog (loadVar 28 ⟨w.heap.size, 0, none⟩) w7).andThen fun a w' => Result.ok (Value.tuple #[a, .int .i64 0]) w') = _
 rw [hr]
 simp
theorem Read_alivg (w : World) : Calls Tryz.prog 17 #[.string ⟨#[48, 9, 2, 1, 1, 74, 4, 100, 99, 61, 122]⟩] w fun e w' => e = .returned (.tuple #[.agg (msgD 1 10 [100, 99, 61, 122]), .int .i64 0]) ∧ Below w.heap.size w w' :=
 Read_delg [48, 9, 2, 1, 1, 74, 4, 100, 99, 61, 122] 1 (by omega) [100, 99, 61, 122] (by simp) (by rfl) (by simp) w
set_option maxRecDepth 100000 in
theorem alive9_env (w : World) (hE : Env w) : Calls Tryz.prog 10 #[] w fun e w' => e = .returned (.bool true) ∧ Below w.heap.size w w' := by
 have k1 := Write_alivg w hE
 clear hE
 obtain ⟨D, hD⟩ : ∃ D, msgD 1 10 [100, 99, 61, 122] = D := ⟨_, rfl⟩
 have hD1 : D.all (·.oneCell') = true := by rw [← hD]; simp [msgD, Value.oneCell']
 have hD2 : D.size = 28 := by rw [← hD]; rfl
 have HD := hid hD
 have HD1 := hid hD1
 have HD2 := hid hD2
 clear hD hD1 hD2
 go_enter Tryz.func10, Tryz.ntmps10
 go_wp2_with fail
 refine Calls.mono k1 ?_
 rintro e w1 ⟨rfl, b1⟩
 clear k1
 have k2 := Read_alivg w1
 rw [HD.out] at k2
 go_wp2_with fail
 refine Calls.mono k2 ?_
 rintro e w2 ⟨rfl, hb⟩
 have b2 := b1.trans (hb.mono b1.size)
 clear k2 hb b1
 have x3 : (w2.alloc (.cells Zm 28)).heap[w2.heap.size]? = some (.cells Zm 28 (0, 0)) := alloc_at _ _ _ rfl
 have b3 : Below w.heap.size w ((w2.alloc (.cells Zm 28)).setRow w2.heap.size D) := below_row (b2.alloc b2.size _) b2.size D
 have e3 := setRow_heap (w2.alloc (.cells Zm 28)) w2.heap.size _ D _ _ x3
 have X3 := hid x3
 have q1 : ((w2.alloc (.cells Zm 28)).setRow w2.heap.size D).cell? ⟨w2.heap.size, 1, none⟩ = some (.int .i64 10) := (cell_of_heap e3 1).trans (by rw [← HD.out]; rfl)
 have q2 : ((w2.alloc (.cells Zm 28)).setRow w2.heap.size D).cell? ⟨w2.heap.size, 2, none⟩ = some (.string ⟨#[100, 99, 61, 122]⟩) := (cell_of_heap e3 2).trans (by rw [← HD.out]; rfl)
 have Q1 := hid q1
 have Q2 := hid q2
 clear q1 q2
 have B3 := hid b3
 clear x3 b2 b3 e3
 go_wp2_with (refine wpList_storeRow rfl 28 (.tmp 3) (.tmp 12) rfl w2.heap.size 28 Zm D (by rfl) (by rfl) X3.out (by rw [HD2.out]; rfl) (by rw [HD2.out]; rfl) HD1.out ?_; have q1 := Q1.out; have q2 := Q2.out; generalize ((w2.alloc (.cells Zm 28)).setRow w2.heap.size D) = w4 at q1 q2 B3 ⊢; clear Q1 Q2 X3)
 go_ret
 exact ⟨rfl, B3.out⟩
end Go.Proofs.YthjaiigijbjloaaGreatDoor
