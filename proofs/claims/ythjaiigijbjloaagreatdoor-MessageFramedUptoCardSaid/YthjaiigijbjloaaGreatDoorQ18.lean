/- ElB, ElC. -/
import Derived.Test.YthjaiigijbjloaaGreatDoorQ16
import Derived.Test.YthjaiigijbjloaaGreatDoorQ17
namespace Go.Proofs.YthjaiigijbjloaaGreatDoor
open Go.RowKit Go.Lib
def StrsM (w : World) (v : Value) (ls : List (List UInt8)) : Prop :=
 ∃ a cap, v = .slice a ls.length cap ∧ ls.length ≤ cap ∧ (ls ≠ [] → ∃ g o, a = some ⟨g, o, none⟩ ∧ ∀ (j : Nat) (x : List UInt8), ls[j]? = some x → w.cell? ⟨g, o + j, none⟩ = some (.string ⟨x.toArray⟩))
theorem StrsM.below {w w' : World} {v : Value} {ls : List (List UInt8)} (h : StrsM w v ls) (hb : Below w.heap.size w w') : StrsM w' v ls := by
 obtain ⟨a, cap, hv, hc, hr⟩ := h
 refine ⟨a, cap, hv, hc, fun h0 => ?_⟩
 obtain ⟨g, o, ha, hcell⟩ := hr h0
 exact ⟨g, o, ha, fun j x hj => (hb.cell (lt_of_cell (hcell j x hj))).trans (hcell j x hj)⟩
def AttrsM (w : World) (v : Value) (al : List (List UInt8 × List (List UInt8))) : Prop :=
 ∃ a cap, v = .slice a al.length cap ∧ al.length ≤ cap ∧ (al ≠ [] → ∃ g o, a = some ⟨g, o, none⟩ ∧ ∀ (j : Nat) (x : List UInt8 × List (List UInt8)), al[j]? = some x → w.cell? ⟨g, o + j * 2, none⟩ = some (.string ⟨x.1.toArray⟩) ∧ ∃ u, w.cell? ⟨g, o + j * 2 + 1, none⟩ = some u ∧ StrsM w u x.2)
theorem AttrsM.below {w w' : World} {v : Value} {al : List (List UInt8 × List (List UInt8))} (h : AttrsM w v al) (hb : Below w.heap.size w w') : AttrsM w' v al := by
 obtain ⟨a, cap, hv, hc, hr⟩ := h
 refine ⟨a, cap, hv, hc, fun h0 => ?_⟩
 obtain ⟨g, o, ha, hcell⟩ := hr h0
 refine ⟨g, o, ha, fun j x hj => ?_⟩
 obtain ⟨h1, u, h2, h3⟩ := hcell j x hj
 exact ⟨(hb.cell (lt_of_cell h1)).trans h1, u, (hb.cell (lt_of_cell h2)).trans h2, h3.below hb⟩
def strE (s : List UInt8) : El := .mk 0 4 false s []
def attrE (x : List UInt8 × List (List UInt8)) : El := .mk 0 16 true [] [strE x.1, .mk 0 17 true [] (x.2.map strE)]
def StRel (w : World) (ls : List (List UInt8)) (v i : Value) (wr : World) : Prop :=
 ∃ k : Nat, i = .int .i64 (k : Int) ∧ k ≤ ls.length ∧ OwnK w.heap.size wr v ((ls.take k).map strE) ∧ Below w.heap.size w wr
set_option maxRecDepth 100000 in
set_option maxHeartbeats 2000000 in
theorem mstrs_any (vs : Value) (ls : List (List UInt8)) (w : World) (h : StrsM w vs ls) (hl : ls.length ≤ 100000000) :
  Calls Tryz.prog 120 #[vs] w fun e w' => (∃ v, e = .returned v ∧ OwnK w.heap.size w' v (ls.map strE)) ∧ Below w.heap.size w w' := by
 obtain ⟨a, cap, rfl, hcap, hcells⟩ := h
 have HC := hid hcells
 clear hcells
 go_enter Tryz.func120, Tryz.ntmps120
 go_wp2_with fail
 go_loopw [3, 5, 8] (fun v _ i wr => StRel w ls v i wr) (fun _ _ i _ => ls.length - (RowKit.intOf i).toNat)
 case atStart => exact ⟨0, rfl, Nat.zero_le _, OwnK.nil _ _, Below.refl _ _⟩
 case round =>
  obtain ⟨k, rfl, hk, hown, hbe⟩ := hrel
  obtain ⟨av, cv, hsh⟩ := hown.shape
  subst hsh
  have hlen : ((ls.take k).map strE).length = k := by simp; omega
  rw [hlen] at hown ⊢
  by_cases hkl : k < ls.length
  ·obtain ⟨s, hs⟩ : ∃ s, ls[k]? = some s := ⟨_, by simp [hkl]; rfl⟩
   obtain ⟨g, o, ha, hc⟩ := HC.out (by intro h0; rw [h0] at hkl; simp at hkl)
   subst ha
   have q0 := (hbe.cell (lt_of_cell (hc k s hs))).trans (hc k s hs)
   have i1 : decide ((k : Int) < (ls.length : Int)) = true := decide_eq_true (by omega)
   have i2 : (k : Int) < (ls.length : Int) := by omega
   have HO := hid hown
   have HS := hid hs
   have hszr := hbe.size
   have kc := mstr_any s wr
   clear hc hs hown
   go_wp2_with fail
   refine Calls.mono kc ?_
   rintro e w2 ⟨rfl, hb2⟩
   clear q0 kc
   have o2 := HO.out.below hb2
   have b2 := hbe.trans (hb2.mono hszr)
   simp only [elA, El.cls, El.tag, El.cons, El.bytes]
   have g3 : Below w2.heap.size w2 (w2.alloc (.cells #[.int .i64 0, .int .i64 4, .bool false, .string ⟨s.toArray⟩, .slice none 0 0] 45)) := (Below.refl _ _).alloc (Nat.le_refl _) _
   have x3 : (w2.alloc (.cells #[.int .i64 0, .int .i64 4, .bool false, .string ⟨s.toArray⟩, .slice none 0 0] 45)).heap[w2.heap.size]? = some (.cells (elA (strE s) (.slice none 0 0)) 45 (0, 0)) := alloc_at _ _ _ rfl
   have o3 := o2.below g3
   have b3 := b2.trans (g3.mono b2.size)
   have hs3 := b3.size
   have O3 := hid o3
   have X3 := hid x3
   have B3 := hid b3
   clear o2 b2 g3 o3 x3 b3 hb2 hbe
   go_wp2_with (at_builtin; refine wpList_append_el rfl (.tmp 12) (.tmp 15) rfl w.heap.size (.slice av k cv) ((ls.take k).map strE) rfl O3.out (strE s) none 0 0 w2.heap.size rfl X3.out (KidsAt.nil _ _) (by omega) hs3 ?_; rw [hlen]; intro a' c' w5 ho5 hg5)
   have hts : (ls.take (k + 1)).map strE = (ls.take k).map strE ++ [strE s] := by rw [List.take_add_one, HS.out]; simp
   have b5 := B3.out.grown hg5 hs3 (fun b hb => (O3.out.lt hb).1)
   exact ⟨⟨k + 1, by go_num, by omega, by rw [hts]; exact ho5, b5⟩, by simp [RowKit.intOf]; omega⟩
  ·obtain rfl : k = ls.length := by omega
   rw [List.take_of_length_le (Nat.le_refl _)] at hown
   have HO := hid hown
   clear hown
   go_wp2_with fail
   go_ret
   exact ⟨⟨_, rfl, HO.out⟩, hbe⟩
theorem sm_strs (ls : List (List UInt8)) (h : ∀ s ∈ ls, s.length ≤ 1000000000) : SmL (ls.map strE) := by
 induction ls with
 | nil => simp only [List.map_nil, SmL]
 | cons s r ih =>
  simp only [List.map_cons, SmL, strE, SmE]
  exact ⟨⟨h s (by simp), by simp, trivial⟩, ih fun x hx => h x (by simp [hx])⟩
set_option maxRecDepth 100000 in
set_option maxHeartbeats 4000000 in
theorem attr_any (t : List UInt8) (vs : Value) (ls : List (List UInt8)) (w : World) (h : StrsM w vs ls) (hl : ls.length ≤ 100000000) (ht : t.length ≤ 1000000000) (hs : ∀ s ∈ ls, s.length ≤ 1000000000) :
  Calls Tryz.prog 162 #[.string ⟨t.toArray⟩, vs] w fun e w' => (∃ u, e = .returned (.agg (elA (attrE (t, ls)) u)) ∧ KidsAt (fun g => w.heap.size ≤ g) w' u (attrE (t, ls)).kids) ∧ Below w.heap.size w w' := by
 have b1 : Below w.heap.size w (w.alloc (.cells Ze 45)) := (Below.refl _ _).alloc (Nat.le_refl _) _
 have t1 : (w.alloc (.cells Ze 45)).heap[w.heap.size]? = some (.cells Ze 45 (0, 0)) := alloc_at _ _ _ rfl
 have h1 := h.below b1
 have HS := hid hs
 have HT := hid ht
 clear h hs ht
 go_enter Tryz.func162, Tryz.ntmps162
 go_wp2_with fail
 generalize w.alloc (.cells Ze 45) = w1 at b1 t1 h1 ⊢
 have k1 := mstr_any t w1
 refine Calls.mono k1 ?_
 rintro e w2 ⟨rfl, hb⟩
 have h2 := h1.below hb
 have t2 := (hb.block _ (gl t1)).trans t1
 have b2 := b1.trans (hb.mono b1.size)
 clear k1 hb h1 t1 b1
 have k2 := mstrs_any vs ls w2 h2 hl
 go_wp2_with fail
 refine Calls.mono k2 ?_
 rintro e w3 ⟨⟨v3, rfl, o3⟩, hb⟩
 have t3 := (hb.block _ (gl t2)).trans t2
 have b3 := b2.trans (hb.mono b2.size)
 clear k2 hb h2 t2 b2
 have k3 := Seq_any (ls.map strE) v3 w3 o3.kids (sm_strs ls HS.out) (by simp; omega)
 clear o3
 go_wp2_with fail
 refine Calls.mono k3 ?_
 rintro e w4 ⟨⟨u4, rfl, hu4⟩, hb⟩
 have t4 := (hb.block _ (gl t3)).trans t3
 have b4 := b3.trans (hb.mono b3.size)
 clear k3 hb t3 b3
 have hsm : SmE (.mk 0 16 true [] (ls.map strE)) := by
  simp only [SmE]
  exact ⟨by simp, by simp; omega, sm_strs ls HS.out⟩
 have k4 := As_any (.mk 0 16 true [] (ls.map strE)) u4 0 17 w4 (hu4.mono fun _ _ _ => trivial) hsm
 clear hu4 hsm
 go_wp2_with fail
 refine Calls.mono k4 ?_
 rintro e w5 ⟨⟨u5, rfl, hu5⟩, hb⟩
 have t5 := (hb.block _ (gl t4)).trans t4
 have b5 := b4.trans (hb.mono b4.size)
 clear k4 hb t4 b4
 obtain ⟨a5, c5, hsh⟩ := hu5.shape
 subst hsh
 have hk6 := bs_kids (e1 := strE t) (e2 := .mk 0 17 true [] (ls.map strE)) (KidsAt.nil _ w5) (hu5.mono fun _ _ _ => trivial)
 have g6 : Below w5.heap.size w5 (w5.alloc (.cells #[.int .i64 (strE t).cls, .int .i64 (strE t).tag, .bool (strE t).cons, .string ⟨(strE t).bytes.toArray⟩, .slice none 0 0, .int .i64 (El.mk 0 17 true [] (ls.map strE)).cls, .int .i64 (El.mk 0 17 true [] (ls.map strE)).tag, .bool (El.mk 0 17 true [] (ls.map strE)).cons, .string ⟨(El.mk 0 17 true [] (ls.map strE)).bytes.toArray⟩, .slice a5 (El.mk 0 17 true [] (ls.map strE)).kids.length c5] 45)) := (Below.refl _ _).alloc (Nat.le_refl _) _
 have t6 := (g6.block _ (gl t5)).trans t5
 have b6 := b5.trans (g6.mono b5.size)
 simp only [elA, strE, El.cls, El.tag, El.cons, El.bytes, El.kids, List.length_map] at hk6 t6 b6 ⊢
 have K6 := hid hk6
 have T6 := hid t6
 have B6 := hid b6
 clear g6 hk6 t6 b6 t5 b5 hu5
 go_wp2_with fail
 generalize w5.alloc (.cells #[.int .i64 0, .int .i64 4, .bool false, .string ⟨t.toArray⟩, .slice none 0 0, .int .i64 0, .int .i64 17, .bool true, .string ⟨#[]⟩, .slice a5 ls.length c5] 45) = w6 at K6 T6 B6 ⊢
 have k6 := Seq_any [strE t, .mk 0 17 true [] (ls.map strE)] _ w6 K6.out (by simp only [SmL, strE, SmE]; exact ⟨⟨HT.out, by simp, trivial⟩, ⟨by simp, by simp; omega, sm_strs ls HS.out⟩, trivial⟩) (by simp)
 refine Calls.mono k6 ?_
 rintro e w7 ⟨⟨u, rfl, hu⟩, hb⟩
 have t7 := (hb.block _ (gl T6.out)).trans T6.out
 have b7 := B6.out.trans (hb.mono B6.out.size)
 have hs6 := (gl T6.out)
 clear k6 hb K6 T6 B6
 obtain ⟨E, hE⟩ : ∃ E, elA (El.mk 0 16 true [] [strE t, .mk 0 17 true [] (ls.map strE)]) u = E := ⟨_, rfl⟩
 have hE1 : E.all (·.oneCell') = true := by
  obtain ⟨a, c, hsl⟩ := hu.shape
  subst hsl
  rw [← hE]; simp [elA, Value.oneCell']
 have hE2 : E.size = 5 := by rw [← hE]; rfl
 rw [hE]
 have hsz := (gl t7)
 have bF := below_row b7 (g := w.heap.size) (Nat.le_refl _) E
 have tF := setRow_heap w7 w.heap.size _ E _ _ t7
 have uF : KidsAt (fun g => w.heap.size ≤ g) (w7.setRow w.heap.size E) u (El.mk 0 16 true [] [strE t, .mk 0 17 true [] (ls.map strE)]).kids := hu.kept fun g hg hl => ⟨setRow_other w7 w.heap.size g E (by omega), by omega⟩
 have HE := hid hE
 have HE1 := hid hE1
 have HE2 := hid hE2
 have UF := hid uF
 clear hu hE hE1 hE2 uF b7
 go_wp2_with (refine wpList_storeRow rfl 45 (.tmp 4) (.tmp 12) rfl w.heap.size 45 _ E (by rfl) (by rfl) t7 (by rw [HE2.out]; rfl) (by rw [HE2.out]; rfl) HE1.out ?_)
 refine bodyPost_ret (v := .agg E) ?_ rfl ⟨⟨u, by rw [← HE.out] <;> rfl, UF.out⟩, bF⟩
 have hr := run_loadVar_row (P := Tryz.prog) (w7.setRow w.heap.size E) w.heap.size 45 45 E (0, 0) _ tF (show Tryz.prog.underlying 45 = _ from Tryz.underlying45) (by rfl) (by rw [HE2.out]; rfl)
 simp [results, Tryz.f162]
 exact hr
def AtRel (w : World) (al : List (List UInt8 × List (List UInt8))) (v i : Value) (wr : World) : Prop :=
 ∃ k : Nat, i = .int .i64 (k : Int) ∧ k ≤ al.length ∧ OwnK w.heap.size wr v ((al.take k).map attrE) ∧ Below w.heap.size w wr
def AtsOk (al : List (List UInt8 × List (List UInt8))) : Prop := al.length ≤ 100000000 ∧ ∀ x ∈ al, x.1.length ≤ 1000000000 ∧ x.2.length ≤ 100000000 ∧ ∀ s ∈ x.2, s.length ≤ 1000000000
theorem sm_attr (x : List UInt8 × List (List UInt8)) (h : x.1.length ≤ 1000000000 ∧ x.2.length ≤ 100000000 ∧ ∀ s ∈ x.2, s.length ≤ 1000000000) : SmE (attrE x) := by
 simp only [attrE, SmE, SmL, strE]
 exact ⟨by simp, by simp, ⟨h.1, by simp, trivial⟩, ⟨by simp, by simp; omega, sm_strs x.2 h.2.2⟩, trivial⟩
theorem sm_attrs (al : List (List UInt8 × List (List UInt8))) (h : ∀ x ∈ al, x.1.length ≤ 1000000000 ∧ x.2.length ≤ 100000000 ∧ ∀ s ∈ x.2, s.length ≤ 1000000000) : SmL (al.map attrE) := by
 induction al with
 | nil => simp only [List.map_nil, SmL]
 | cons x r ih =>
  simp only [List.map_cons, SmL]
  exact ⟨sm_attr x (h x (by simp)), ih fun y hy => h y (by simp [hy])⟩
set_option maxRecDepth 100000 in
set_option maxHeartbeats 4000000 in
theorem mattrs_any (vs : Value) (al : List (List UInt8 × List (List UInt8))) (w : World) (h : AttrsM w vs al) (hok : AtsOk al) :
  Calls Tryz.prog 122 #[vs] w fun e w' => (∃ u, e = .returned (.agg (elA (.mk 0 16 true [] (al.map attrE)) u)) ∧ KidsAt (fun g => w.heap.size ≤ g) w' u (al.map attrE)) ∧ Below w.heap.size w w' := by
 obtain ⟨hl, hb⟩ := hok
 have HB := hid hb
 have b1 : Below w.heap.size w (w.alloc (.cells Ze 45)) := (Below.refl _ _).alloc (Nat.le_refl _) _
 have t1 : (w.alloc (.cells Ze 45)).heap[w.heap.size]? = some (.cells Ze 45 (0, 0)) := alloc_at _ _ _ rfl
 have h1 := h.below b1
 clear h hb
 obtain ⟨a, cap, hvs, hcap, hcells⟩ := h1
 subst hvs
 have HC := hid hcells
 clear hcells
 go_enter Tryz.func122, Tryz.ntmps122
 go_wp2_with fail
 generalize w.alloc (.cells Ze 45) = w1 at b1 t1 HC ⊢
 go_loopw [3, 5, 8] (fun v _ i wr => AtRel w1 al v i wr) (fun _ _ i _ => al.length - (RowKit.intOf i).toNat)
 case atStart => exact ⟨0, rfl, Nat.zero_le _, OwnK.nil _ _, Below.refl _ _⟩
 case round =>
  obtain ⟨k, rfl, hk, hown, hbe⟩ := hrel
  obtain ⟨av, cv, hsh⟩ := hown.shape
  subst hsh
  have hlen : ((al.take k).map attrE).length = k := by simp; omega
  rw [hlen] at hown ⊢
  by_cases hkl : k < al.length
  ·obtain ⟨x, hx⟩ : ∃ x, al[k]? = some x := ⟨_, by simp [hkl]; rfl⟩
   obtain ⟨g, o, ha, hc⟩ := HC.out (by intro h0; rw [h0] at hkl; simp at hkl)
   subst ha
   obtain ⟨p0, u, p1, hu⟩ := hc k x hx
   have q0 := (hbe.cell (lt_of_cell p0)).trans p0
   have q1 := (hbe.cell (lt_of_cell p1)).trans p1
   have hu' := hu.below hbe
   obtain ⟨au, cu, hus, hcu, hru⟩ := id hu'
   subst hus
   clear hru
   have i1 : decide ((k : Int) < (al.length : Int)) = true := decide_eq_true (by omega)
   have i2 : (k : Int) < (al.length : Int) := by omega
   have hbx := HB.out x (List.mem_of_getElem? hx)
   have HO := hid hown
   have HX := hid hx
   have HU := hid hu'
   have HBX := hid hbx
   have hszr := hbe.size
   have n1 : Below wr.heap.size wr (wr.alloc (.cells #[.string ⟨x.1.toArray⟩, .slice au x.2.length cu] 56)) := (Below.refl _ _).alloc (Nat.le_refl _) _
   have n2 : (wr.alloc (.cells #[.string ⟨x.1.toArray⟩, .slice au x.2.length cu] 56)).heap[wr.heap.size]? = some (.cells #[.string ⟨x.1.toArray⟩, .slice au x.2.length cu] 56 (0, 0)) := alloc_at _ _ _ rfl
   have kc := attr_any x.1 _ x.2 _ (hu'.below n1) hbx.2.1 hbx.1 hbx.2.2
   clear hc hx hown hu hu' hbx p0 p1 n2
   go_wp2_with fail
   refine Calls.mono kc ?_
   rintro e w2 ⟨⟨u2, rfl, hu2⟩, hb2⟩
   have hb3 : Below wr.heap.size wr w2 := n1.trans (hb2.mono n1.size)
   have o2 := HO.out.below hb3
   have b2 := hbe.trans (hb3.mono hszr)
   have hke2 : KidsAt (fun g => (.slice av k cv : Value).ownBlock ≠ some g) w2 u2 (attrE x).kids := hu2.mono fun g hg _ h => by
    have := (HO.out.lt h).2
    have := n1.size
    omega
   obtain ⟨a2, c2, hs2⟩ := hu2.shape
   subst hs2
   clear kc hb2 q0 q1 hu2 n1 hb3
   simp only [elA, attrE, strE, El.cls, El.tag, El.cons, El.bytes, El.kids, List.length_cons, List.length_nil] at hke2 ⊢
   have g3 : Below w2.heap.size w2 (w2.alloc (.cells #[.int .i64 0, .int .i64 16, .bool true, .string ⟨#[]⟩, .slice a2 2 c2] 45)) := (Below.refl _ _).alloc (Nat.le_refl _) _
   have x3 : (w2.alloc (.cells #[.int .i64 0, .int .i64 16, .bool true, .string ⟨#[]⟩, .slice a2 2 c2] 45)).heap[w2.heap.size]? = some (.cells (elA (attrE x) (.slice a2 2 c2)) 45 (0, 0)) := alloc_at _ _ _ rfl
   have o3 := o2.below g3
   have b3 := b2.trans (g3.mono b2.size)
   have k3 := hke2.below g3
   have hs3 := b3.size
   have O3 := hid o3
   have X3 := hid x3
   have B3 := hid b3
   have K3 := hid k3
   clear o2 b2 g3 o3 x3 b3 hke2 k3 hbe
   go_wp2_with (at_builtin; refine wpList_append_el rfl (.tmp 12) (.tmp 18) rfl w1.heap.size (.slice av k cv) ((al.take k).map attrE) rfl O3.out (attrE x) a2 2 c2 w2.heap.size rfl X3.out K3.out (by omega) hs3 ?_; rw [hlen]; intro a' c' w5 ho5 hg5)
   have hts : (al.take (k + 1)).map attrE = (al.take k).map attrE ++ [attrE x] := by rw [List.take_add_one, HX.out]; simp
   have b5 := B3.out.grown hg5 hs3 (fun b hb => (O3.out.lt hb).1)
   exact ⟨⟨k + 1, by go_num, by omega, by rw [hts]; exact ho5, b5⟩, by simp [RowKit.intOf]; omega⟩
  ·obtain rfl : k = al.length := by omega
   rw [List.take_of_length_le (Nat.le_refl _)] at hown
   have ks := Seq_any (al.map attrE) _ wr hown.kids (sm_attrs al HB.out) (by simp; omega)
   have t2 := (hbe.block _ (gl t1)).trans t1
   have b2 := b1.trans (hbe.mono b1.size)
   have KS := hid ks
   have T2 := hid t2
   clear ks hown t2 t1 hbe b1
   go_wp2_with fail
   refine Calls.mono (show Calls _ _ _ _ _ from KS.out) ?_
   rintro e w7 ⟨⟨u, rfl, hu⟩, hb⟩
   have t7 := (hb.block _ (gl T2.out)).trans T2.out
   have b7 := b2.trans (hb.mono b2.size)
   have hs6 := (gl T2.out)
   clear KS hb T2 b2
   obtain ⟨E, hE⟩ : ∃ E, elA (El.mk 0 16 true [] (al.map attrE)) u = E := ⟨_, rfl⟩
   have hE1 : E.all (·.oneCell') = true := by
    obtain ⟨a, c, hsl⟩ := hu.shape
    subst hsl
    rw [← hE]; simp [elA, Value.oneCell']
   have hE2 : E.size = 5 := by rw [← hE]; rfl
   rw [hE]
   have hsz := (gl t7)
   have bF := below_row b7 (g := w.heap.size) (Nat.le_refl _) E
   have tF := setRow_heap w7 w.heap.size _ E _ _ t7
   have uF : KidsAt (fun g => w.heap.size ≤ g) (w7.setRow w.heap.size E) u (El.mk 0 16 true [] (al.map attrE)).kids := hu.kept fun g hg hl => ⟨setRow_other w7 w.heap.size g E (by omega), by omega⟩
   have HE := hid hE
   have HE1 := hid hE1
   have HE2 := hid hE2
   have UF := hid uF
   clear hu hE hE1 hE2 uF b7
   go_wp2_with (refine wpList_storeRow rfl 45 (.tmp 2) (.tmp 22) rfl w.heap.size 45 _ E (by rfl) (by rfl) t7 (by rw [HE2.out]; rfl) (by rw [HE2.out]; rfl) HE1.out ?_)
   refine bodyPost_ret (v := .agg E) ?_ rfl ⟨⟨u, by rw [← HE.out] <;> rfl, UF.out⟩, bF⟩
   have hr := run_loadVar_row (P := Tryz.prog) (w7.setRow w.heap.size E) w.heap.size 45 45 E (0, 0) _ tF (show Tryz.prog.underlying 45 = _ from Tryz.underlying45) (by rfl) (by rw [HE2.out]; rfl)
   simp [results, Tryz.f122]
   exact hr
end Go.Proofs.YthjaiigijbjloaaGreatDoor
