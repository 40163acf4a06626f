/- ElD. -/
import Derived.Test.YthjaiigijbjloaaGreatDoorQ18
namespace Go.Proofs.YthjaiigijbjloaaGreatDoor
open Go.RowKit Go.Lib
abbrev Mo := Nat × List UInt8 × List (List UInt8)
def ModsM (w : World) (v : Value) (ml : List Mo) : Prop :=
 ∃ a cap, v = .slice a ml.length cap ∧ ml.length ≤ cap ∧ (ml ≠ [] → ∃ g o, a = some ⟨g, o, none⟩ ∧ ∀ (j : Nat) (x : Mo), ml[j]? = some x → w.cell? ⟨g, o + j * 3, none⟩ = some (.int .i64 (x.1 : Int)) ∧ w.cell? ⟨g, o + j * 3 + 1, none⟩ = some (.string ⟨x.2.1.toArray⟩) ∧ ∃ u, w.cell? ⟨g, o + j * 3 + 2, none⟩ = some u ∧ StrsM w u x.2.2)
theorem ModsM.below {w w' : World} {v : Value} {ml : List Mo} (h : ModsM w v ml) (hb : Below w.heap.size w w') : ModsM w' v ml := by
 obtain ⟨a, cap, hv, hc, hr⟩ := h
 refine ⟨a, cap, hv, hc, fun h0 => ?_⟩
 obtain ⟨g, o, ha, hcell⟩ := hr h0
 refine ⟨g, o, ha, fun j x hj => ?_⟩
 obtain ⟨h0, h1, u, h2, h3⟩ := hcell j x hj
 exact ⟨(hb.cell (lt_of_cell h0)).trans h0, (hb.cell (lt_of_cell h1)).trans h1, u, (hb.cell (lt_of_cell h2)).trans h2, h3.below hb⟩
def modE (x : Mo) : El := .mk 0 16 true [] [.mk 0 10 false (sgB x.1) [], attrE x.2]
def MosOk (ml : List Mo) : Prop := ml.length ≤ 100000000 ∧ ∀ x ∈ ml, x.1 ≤ 2147483647 ∧ x.2.1.length ≤ 1000000000 ∧ x.2.2.length ≤ 100000000 ∧ ∀ s ∈ x.2.2, s.length ≤ 1000000000
theorem sm_mod (x : Mo) (h : x.1 ≤ 2147483647 ∧ x.2.1.length ≤ 1000000000 ∧ x.2.2.length ≤ 100000000 ∧ ∀ s ∈ x.2.2, s.length ≤ 1000000000) : SmE (modE x) := by
 have := sgB_len x.1
 simp only [modE, SmE, SmL]
 exact ⟨by simp, by simp, ⟨by omega, by simp, trivial⟩, sm_attr x.2 h.2, trivial⟩
theorem sm_mods (ml : List Mo) (h : ∀ x ∈ ml, x.1 ≤ 2147483647 ∧ x.2.1.length ≤ 1000000000 ∧ x.2.2.length ≤ 100000000 ∧ ∀ s ∈ x.2.2, s.length ≤ 1000000000) : SmL (ml.map modE) := by
 induction ml with
 | nil => simp only [List.map_nil, SmL]
 | cons x r ih =>
  simp only [List.map_cons, SmL]
  exact ⟨sm_mod x (h x (by simp)), ih fun y hy => h y (by simp [hy])⟩
def MoRel (w : World) (ml : List Mo) (v i : Value) (wr : World) : Prop :=
 ∃ k : Nat, i = .int .i64 (k : Int) ∧ k ≤ ml.length ∧ OwnK w.heap.size wr v ((ml.take k).map modE) ∧ Below w.heap.size w wr
set_option maxRecDepth 100000 in
set_option maxHeartbeats 4000000 in
theorem mmods_any (vs : Value) (ml : List Mo) (w : World) (h : ModsM w vs ml) (hok : MosOk ml) :
  Calls Tryz.prog 121 #[vs] w fun e w' => (∃ u, e = .returned (.agg (elA (.mk 0 16 true [] (ml.map modE)) u)) ∧ KidsAt (fun g => w.heap.size ≤ g) w' u (ml.map modE)) ∧ Below w.heap.size w w' := by
 obtain ⟨hl, hb⟩ := hok
 have HB := hid hb
 have b1 : Below w.heap.size w (w.alloc (.cells Ze 45)) := (Below.refl _ _).alloc (Nat.le_refl _) _
 have t1 : (w.alloc (.cells Ze 45)).heap[w.heap.size]? = some (.cells Ze 45 (0, 0)) := alloc_at _ _ _ rfl
 have h1 := h.below b1
 clear h hb
 obtain ⟨a, cap, hvs, hcap, hcells⟩ := h1
 subst hvs
 have HC := hid hcells
 clear hcells
 go_enter Tryz.func121, Tryz.ntmps121
 go_wp2_with fail
 generalize w.alloc (.cells Ze 45) = w1 at b1 t1 HC ⊢
 go_loopw [3, 5, 8] (fun v _ i wr => MoRel w1 ml v i wr) (fun _ _ i _ => ml.length - (RowKit.intOf i).toNat)
 case atStart => exact ⟨0, rfl, Nat.zero_le _, OwnK.nil _ _, Below.refl _ _⟩
 case round =>
  obtain ⟨k, rfl, hk, hown, hbe⟩ := hrel
  obtain ⟨av, cv, hsh⟩ := hown.shape
  subst hsh
  have hlen : ((ml.take k).map modE).length = k := by simp; omega
  rw [hlen] at hown ⊢
  by_cases hkl : k < ml.length
  ·obtain ⟨x, hx⟩ : ∃ x, ml[k]? = some x := ⟨_, by simp [hkl]; rfl⟩
   obtain ⟨g, o, ha, hc⟩ := HC.out (by intro h0; rw [h0] at hkl; simp at hkl)
   subst ha
   obtain ⟨p0, p1, u, p2, hu⟩ := hc k x hx
   have q0 := (hbe.cell (lt_of_cell p0)).trans p0
   have q1 := (hbe.cell (lt_of_cell p1)).trans p1
   have q2 := (hbe.cell (lt_of_cell p2)).trans p2
   have hu' := hu.below hbe
   obtain ⟨au, cu, hus, hcu, hru⟩ := id hu'
   subst hus
   clear hru
   have i1 : decide ((k : Int) < (ml.length : Int)) = true := decide_eq_true (by omega)
   have i2 : (k : Int) < (ml.length : Int) := by omega
   have hbx := HB.out x (List.mem_of_getElem? hx)
   have HO := hid hown
   have HX := hid hx
   have HBX := hid hbx
   have hszr := hbe.size
   have n1 : Below wr.heap.size wr (wr.alloc (.cells #[.int .i64 (x.1 : Int), .string ⟨x.2.1.toArray⟩, .slice au x.2.2.length cu] 58)) := (Below.refl _ _).alloc (Nat.le_refl _) _
   have n2 : (wr.alloc (.cells #[.int .i64 (x.1 : Int), .string ⟨x.2.1.toArray⟩, .slice au x.2.2.length cu] 58)).heap[wr.heap.size]? = some (.cells #[.int .i64 (x.1 : Int), .string ⟨x.2.1.toArray⟩, .slice au x.2.2.length cu] 58 (0, 0)) := alloc_at _ _ _ rfl
   have hu1 := hu'.below n1
   have N2 := hid n2
   have HU := hid hu1
   clear hc hx hown hu hu' hu1 hbx p0 p1 p2 n2
   go_upto_region 5 with fail
   have o1 := HO.out.below n1
   generalize wr.alloc (.cells #[.int .i64 (x.1 : Int), .string ⟨x.2.1.toArray⟩, .slice au x.2.2.length cu] 58) = w2 at n1 N2 HU o1 ⊢
   have hn1 := n1.size
   generalize hF : wr.heap.size = F at N2 ⊢
   have HF := hid hF
   have bb : Below w1.heap.size w1 w2 := hbe.trans (n1.mono hszr)
   have hol := fun g (h : (Value.slice av k cv).ownBlock = some g) => (HO.out.lt h).2
   clear hF
   refine wp_region_held (S := fun w' => w'.heap[F]? = some (.cells #[.int .i64 (x.1 : Int), .string ⟨x.2.1.toArray⟩, .slice au x.2.2.length cu] 58 (0, 0))) (by kernel_rfl) ?_
   have T : w2.drew.heap[F]? = some (.cells #[.int .i64 (x.1 : Int), .string ⟨x.2.1.toArray⟩, .slice au x.2.2.length cu] 58 (0, 0)) := N2.out
   have D := bb.drew
   have U := HU.out.below (Below.refl w2.heap.size w2).drew
   have O2 := o1.below (Below.refl w2.heap.size w2).drew
   change wpAnyH _ _ _ _ _ _ _ _ w2.drew
   have hsd : wr.heap.size ≤ w2.drew.heap.size := hn1
   clear N2 HU o1 q0 q1 q2 n1 bb hbe
   generalize w2.drew = w3 at T D U O2 hsd ⊢
   refine tk 0 (.slice av k cv) rfl (fun w' hS => by go_simp) T (fun K hK => ?_); go_simp; refine hK _ _ ?_; clear hK K
   refine tk 1 (.pointer (some ⟨F, 0, none⟩)) rfl (fun w' hS => by go_simp) T (fun K hK => ?_); go_simp; refine hK _ _ ?_; clear hK K
   refine tk 2 (.int .i64 (x.1 : Int)) rfl (fun w' hS => by have q := (cell_of_heap hS 0).trans (show _ = some _ from rfl); go_simp) T (fun K hK => ?_); go_simp; refine hK _ _ ?_; clear hK K
   refine tk 4 (.pointer (some ⟨F, 1, none⟩)) rfl (fun w' hS => by go_simp) T (fun K hK => ?_); go_simp; refine hK _ _ ?_; clear hK K
   refine tk 5 (.string ⟨x.2.1.toArray⟩) rfl (fun w' hS => by have q := (cell_of_heap hS 1).trans (show _ = some _ from rfl); go_simp) T (fun K hK => ?_); go_simp; refine hK _ _ ?_; clear hK K
   refine tk 6 (.pointer (some ⟨F, 2, none⟩)) rfl (fun w' hS => by go_simp) T (fun K hK => ?_); go_simp; refine hK _ _ ?_; clear hK K
   refine tk 7 (.slice au x.2.2.length cu) rfl (fun w' hS => by have q := (cell_of_heap hS 2).trans (show _ = some _ from rfl); go_simp) T (fun K hK => ?_); go_simp; refine hK _ _ ?_; clear hK K
   have kc := Int_any 10 x.1 HBX.out.1 w3
   refine anyH_one 3 (by kernel_rfl) rfl (by rfl) (fun K hK => ?_); go_simp; go_wp2_with fail
   refine Calls.mono kc ?_
   rintro e w4 ⟨rfl, hb⟩
   have T4 := (hb.block _ (gl T)).trans T
   have D4 := D.trans (hb.mono D.size)
   have U4 := U.below hb
   have O4 := O2.below hb
   have hsd4 := Nat.le_trans hsd hb.size
   clear kc hb T D U O2 hsd
   refine hK _ _ T4 ?_; clear hK K
   have kc := attr_any x.2.1 _ x.2.2 w4 U4 HBX.out.2.2.1 HBX.out.2.1 HBX.out.2.2.2
   refine anyH_one 8 (by kernel_rfl) rfl (by rfl) (fun K hK => ?_); go_simp; go_wp2_with fail
   refine Calls.mono kc ?_
   rintro e w5 ⟨⟨u5, rfl, hu5⟩, hb⟩
   have T5 := (hb.block _ (gl T4)).trans T4
   have D5 := D4.trans (hb.mono D4.size)
   have O5 := O4.below hb
   have hsd5 := Nat.le_trans hsd4 hb.size
   clear kc hb T4 D4 U4 O4
   refine hK _ _ T5 ?_; clear hK K
   obtain ⟨a5, c5, rfl⟩ := hu5.shape
   have hk6 := bs_kids (e1 := .mk 0 10 false (sgB x.1) []) (e2 := attrE x.2) (KidsAt.nil _ w5) (hu5.mono fun _ _ _ => trivial)
   refine anyH_one 9 (by kernel_rfl) rfl (by rfl) (fun K hK => ?_)
   refine wp_value (exec_bs2 (e1 := .mk 0 10 false (sgB x.1) []) (e2 := attrE x.2) rfl rfl rfl) ?_
   have g6 : Below w5.heap.size w5 (w5.alloc (.cells #[.int .i64 (El.mk 0 10 false (sgB x.1) []).cls, .int .i64 (El.mk 0 10 false (sgB x.1) []).tag, .bool (El.mk 0 10 false (sgB x.1) []).cons, .string ⟨(El.mk 0 10 false (sgB x.1) []).bytes.toArray⟩, .slice none 0 0, .int .i64 (attrE x.2).cls, .int .i64 (attrE x.2).tag, .bool (attrE x.2).cons, .string ⟨(attrE x.2).bytes.toArray⟩, .slice a5 (attrE x.2).kids.length c5] 45)) := (Below.refl _ _).alloc (Nat.le_refl _) _
   have T6 := (g6.block _ (gl T5)).trans T5
   have D6 := D5.trans (g6.mono D5.size)
   have O6 := O5.below g6
   have hsd6 := Nat.le_trans hsd5 g6.size
   refine hK _ _ T6 ?_; clear hK K
   generalize w5.alloc (.cells #[.int .i64 (El.mk 0 10 false (sgB x.1) []).cls, .int .i64 (El.mk 0 10 false (sgB x.1) []).tag, .bool (El.mk 0 10 false (sgB x.1) []).cons, .string ⟨(El.mk 0 10 false (sgB x.1) []).bytes.toArray⟩, .slice none 0 0, .int .i64 (attrE x.2).cls, .int .i64 (attrE x.2).tag, .bool (attrE x.2).cons, .string ⟨(attrE x.2).bytes.toArray⟩, .slice a5 (attrE x.2).kids.length c5] 45) = w6 at hk6 T6 D6 O6 hsd6 ⊢
   clear g6 T5 D5 O5 hu5
   have kc := Seq_any [.mk 0 10 false (sgB x.1) [], attrE x.2] _ w6 hk6 (by have := sm_mod x HBX.out; simp only [modE, SmE] at this; exact this.2.2) (by simp)
   refine anyH_one 10 (by kernel_rfl) rfl (by rfl) (fun K hK => ?_); go_simp; go_wp2_with fail
   refine Calls.mono kc ?_
   rintro e w7 ⟨⟨u7, rfl, hu7⟩, hb⟩
   have T7 := (hb.block _ (gl T6)).trans T6
   have D7 := D6.trans (hb.mono D6.size)
   have O7 := O6.below hb
   have hke : KidsAt (fun g => (.slice av k cv : Value).ownBlock ≠ some g) w7 u7 (modE x).kids := hu7.mono fun g hg _ h => by
    have := hol g h
    omega
   clear kc hb T6 D6 O6 hk6 hu7
   refine hK _ _ T7 ?_; clear hK K
   have hs7 : ∃ a c, u7 = .slice a 2 c := hke.shape
   obtain ⟨a7, c7, rfl⟩ := hs7
   have g8 : Below w7.heap.size w7 (w7.alloc (.cells #[.int .i64 0, .int .i64 16, .bool true, .string ⟨#[]⟩, .slice a7 2 c7] 45)) := (Below.refl _ _).alloc (Nat.le_refl _) _
   have x8 : (w7.alloc (.cells #[.int .i64 0, .int .i64 16, .bool true, .string ⟨#[]⟩, .slice a7 2 c7] 45)).heap[w7.heap.size]? = some (.cells (elA (modE x) (.slice a7 2 c7)) 45 (0, 0)) := alloc_at _ _ _ rfl
   have T8 := (g8.block _ (gl T7)).trans T7
   have D8 := D7.trans (g8.mono D7.size)
   have O8 := O7.below g8
   have K8 := hke.below g8
   have hs8 := D8.size
   simp only [elA, El.cls, El.tag, El.cons, El.bytes, List.length_cons, List.length_nil]
   refine anyH_one 11 (by kernel_rfl) rfl (by rfl) (fun K hK => ?_); go_simp; refine hK _ _ T8 ?_; clear hK K
   generalize hw8 : w7.alloc (.cells #[.int .i64 0, .int .i64 16, .bool true, .string ⟨#[]⟩, .slice a7 2 c7] 45) = w8 at g8 x8 T8 D8 O8 K8 hs8 ⊢
   clear hw8 g8 T7 D7 O7 hke
   refine anyH_one 12 (by kernel_rfl) rfl (by rfl) (fun K hK => ?_)
   refine wp_append_el (.tmp 12) (.tmp 23) rfl w1.heap.size (.slice av k cv) ((ml.take k).map modE) rfl O8 (modE x) a7 2 c7 w7.heap.size rfl x8 K8 (by omega) hs8 ?_
   rw [hlen]
   intro a' c' w9 ho9 hg9
   have T9 : w9.heap[F]? = some (.cells #[.int .i64 (x.1 : Int), .string ⟨x.2.1.toArray⟩, .slice au x.2.2.length cu] 58 (0, 0)) := (hg9.block F (gl T8) (fun h => by have := hol F h.symm; have := HF.out; omega)).trans T8
   have b9 := D8.grown hg9 hs8 (fun b hb => (O8.lt hb).1)
   refine hK _ _ T9 ?_; clear hK K
   have hts : (ml.take (k + 1)).map modE = (ml.take k).map modE ++ [modE x] := by rw [List.take_add_one, HX.out]; simp
   have REST : MoRel w1 ml (.slice a' (k + 1) c') (.int .i64 ((k + 1 : Nat) : Int)) w9 := ⟨k + 1, rfl, by omega, by rw [hts]; exact ho9, b9⟩
   clear x8 K8 hs8 T8 D8 O8 ho9 hg9 b9 hts hol
   refine anyH_one 13 (by kernel_rfl) rfl (by rfl) (fun K hK => ?_); go_simp; refine hK _ _ T9 ?_; clear hK K
   refine wpAnyH_done (by kernel_rfl) ?_ _
   simp only [Exit.inBlock, Exit.then]
   refine ‹∀ (a : Act) (w : World), Code.wp _ _ _ a w → _› _ _ ?_
   go_wp2_with fail
   exact ⟨(show ((k : Int) + 1) = ((k + 1 : Nat) : Int) by omega) ▸ REST, by simp [RowKit.intOf]; omega⟩
  ·obtain rfl : k = ml.length := by omega
   rw [List.take_of_length_le (Nat.le_refl _)] at hown
   have ks := Seq_any (ml.map modE) _ wr hown.kids (sm_mods ml HB.out) (by simp; omega)
   have t2 := (hbe.block _ (gl t1)).trans t1
   have b2 := b1.trans (hbe.mono b1.size)
   have KS := hid ks
   have T2 := hid t2
   clear ks hown t2 t1 hbe b1
   go_wp2_with fail
   refine Calls.mono (show Calls _ _ _ _ _ from KS.out) ?_
   rintro e w7 ⟨⟨u, rfl, hu⟩, hb⟩
   have t7 := (hb.block _ (gl T2.out)).trans T2.out
   have b7 := b2.trans (hb.mono b2.size)
   have hs6 := (gl T2.out)
   clear KS hb T2 b2
   obtain ⟨E, hE⟩ : ∃ E, elA (El.mk 0 16 true [] (ml.map modE)) u = E := ⟨_, rfl⟩
   have hE1 : E.all (·.oneCell') = true := by
    obtain ⟨a, c, hsl⟩ := hu.shape
    subst hsl
    rw [← hE]; simp [elA, Value.oneCell']
   have hE2 : E.size = 5 := by rw [← hE]; rfl
   rw [hE]
   have hsz := (gl t7)
   have bF := below_row b7 (g := w.heap.size) (Nat.le_refl _) E
   have tF := setRow_heap w7 w.heap.size _ E _ _ t7
   have uF : KidsAt (fun g => w.heap.size ≤ g) (w7.setRow w.heap.size E) u (El.mk 0 16 true [] (ml.map modE)).kids := hu.kept fun g hg hl => ⟨setRow_other w7 w.heap.size g E (by omega), by omega⟩
   have HE := hid hE
   have HE1 := hid hE1
   have HE2 := hid hE2
   have UF := hid uF
   clear hu hE hE1 hE2 uF b7
   go_wp2_with (refine wpList_storeRow rfl 45 (.tmp 2) (.tmp 27) rfl w.heap.size 45 _ E (by rfl) (by rfl) t7 (by rw [HE2.out]; rfl) (by rw [HE2.out]; rfl) HE1.out ?_)
   refine bodyPost_ret (v := .agg E) ?_ rfl ⟨⟨u, by rw [← HE.out] <;> rfl, UF.out⟩, bF⟩
   have hr := run_loadVar_row (P := Tryz.prog) (w7.setRow w.heap.size E) w.heap.size 45 45 E (0, 0) _ tF (show Tryz.prog.underlying 45 = _ from Tryz.underlying45) (by rfl) (by rw [HE2.out]; rfl)
   simp [results, Tryz.f121]
   exact hr
end Go.Proofs.YthjaiigijbjloaaGreatDoor
