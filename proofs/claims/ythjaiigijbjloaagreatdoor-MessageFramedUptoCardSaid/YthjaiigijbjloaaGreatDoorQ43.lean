/- ElM. -/
import Derived.Deep.CutRange
import Derived.Test.YthjaiigijbjloaaGreatDoorQ42
namespace Go.Proofs.YthjaiigijbjloaaGreatDoor
open Go.RowKit Go.Lib
def critK (c : Ct) : List El := if c.crit then [.mk 0 1 false (blB true) []] else []
def hasK (c : Ct) : List El := if c.has then [.mk 0 4 false c.value []] else []
def ctlK (c : Ct) : List El := [.mk 0 4 false c.oid []] ++ critK c ++ hasK c
def ctlE (c : Ct) : El := .mk 0 16 true [] (ctlK c)
def msgK (m : Mg) (l : Ls) : List El := [.mk 0 2 false (sgB m.id.toNat) [], opE m l] ++ (if l.ctl = [] then [] else [.mk 2 0 true [] (l.ctl.map ctlE)])
def msgE (m : Mg) (l : Ls) : El := .mk 0 16 true [] (msgK m l)
theorem sm_ctl (c : Ct) (h : c.oid.length ≤ 100000000 ∧ c.value.length ≤ 100000000) : SmL (ctlK c) ∧ (ctlK c).length ≤ 3 := by
 unfold ctlK critK hasK
 constructor
 ·refine sm_app _ _ (sm_app _ _ ?_ ?_) ?_
  ·simp only [SmL, SmE]; simp; omega
  ·split <;> simp [SmL, SmE, blB]
  ·split <;> simp only [SmL, SmE] <;> simp; omega
 ·split <;> split <;> simp
theorem sm_ctls : ∀ cl : List Ct, (∀ c ∈ cl, c.oid.length ≤ 100000000 ∧ c.value.length ≤ 100000000) → SmL (cl.map ctlE)
 | [], _ => by simp [SmL]
 | c :: r, h => by
  have h1 := sm_ctl c (h c (by simp))
  have h2 := sm_ctls r (fun x hx => h x (by simp [hx]))
  simp only [List.map_cons, SmL, ctlE, SmE]
  exact ⟨⟨by simp, by omega, h1.1⟩, h2⟩
def CtRel (w3 : World) (cl : List Ct) (v i : Value) (wr : World) : Prop :=
 ∃ k : Nat, i = .int .i64 (k : Int) ∧ k ≤ cl.length ∧ OwnK w3.heap.size wr v ((cl.take k).map ctlE) ∧ Below w3.heap.size w3 wr
set_option maxRecDepth 100000 in
set_option maxHeartbeats 8000000 in
theorem element_any (m : Mg) (l : Ls) (w : World) (hm : MgM w m l) (hk : LsOk m l) (hid : 0 ≤ m.id ∧ m.id ≤ 2147483647) (eo : El) (hso : SmE eo)
  (hop : ∀ w', Below w.heap.size w w' → Calls Tryz.prog 73 #[.agg m.row] w' fun e w'' => (∃ u, e = .returned (.agg (elA eo u)) ∧ KidsAt (fun g => w'.heap.size ≤ g) w'' u eo.kids) ∧ Below w'.heap.size w' w'')
  (K : List El) (hK : K = [.mk 0 2 false (sgB m.id.toNat) [], eo] ++ (if l.ctl = [] then [] else [.mk 2 0 true [] (l.ctl.map ctlE)])) :
  Calls Tryz.prog 31 #[.agg m.row] w fun e w' => (∃ u, e = .returned (.agg (elA (.mk 0 16 true [] K) u)) ∧ KidsAt (fun g => w.heap.size ≤ g) w' u K) ∧ Below w.heap.size w w' := by
 obtain ⟨PR, hPR⟩ : ∃ PR : Ending → World → Prop, PR = fun e w' => (∃ u, e = .returned (.agg (elA (.mk 0 16 true [] K) u)) ∧ KidsAt (fun g => w.heap.size ≤ g) w' u K) ∧ Below w.heap.size w w' := ⟨_, rfl⟩
 rw [← hPR]
 have HPR := Lib.hid hPR
 have HKK := Lib.hid hK
 have HOP := Lib.hid hop
 have hidn : m.id = (m.id.toNat : Int) := by omega
 have hidl : m.id.toNat ≤ 2147483647 := by omega
 obtain ⟨A, hA⟩ : ∃ A, m.row = A := ⟨_, rfl⟩
 obtain ⟨ID, hID⟩ : ∃ n, m.id.toNat = n := ⟨_, rfl⟩
 have hA0 : A[0]? = some (.int .i64 (ID : Int)) := by rw [← hA, ← hID, ← hidn]; rfl
 obtain ⟨ac, cc, hct, hcc, hcells⟩ := hm.ctl
 have hA27 : A[27]? = some (.slice ac l.ctl.length cc) := by rw [← hA, ← hct]; rfl
 have hA28 : A.size = 28 := by rw [← hA]; rfl
 have hlc := hk.ctl
 have hcs := hk.ctls
 have hsc := sm_ctls l.ctl hcs
 rw [hA] at HOP ⊢
 rw [hID] at hidl HKK
 have HA0 := Lib.hid hA0
 have HA27 := Lib.hid hA27
 have HA28 := Lib.hid hA28
 have HC := Lib.hid hcells
 have HCS := Lib.hid hcs
 have HSC := Lib.hid hsc
 have HSO := Lib.hid hso
 clear hPR hK hop hidn hA hID hA0 hct hcells hA27 hA28 hcs hsc hso hm hk hid
 have b1 : Below w.heap.size w ((w.alloc (.cells A 28)).alloc (.cells Ze 45)) := ((Below.refl _ _).alloc (Nat.le_refl _) _).alloc (by simp) _
 have m1 : ((w.alloc (.cells A 28)).alloc (.cells Ze 45)).heap[w.heap.size]? = some (.cells A 28 (0, 0)) := (alloc_old _ _ _ (by simp)).trans (alloc_at _ _ _ rfl)
 have t1 : ((w.alloc (.cells A 28)).alloc (.cells Ze 45)).heap[w.heap.size + 1]? = some (.cells Ze 45 (0, 0)) := alloc_at _ _ _ (by simp)
 go_enter Tryz.func31, Tryz.ntmps31
 go_upto_region 1 with fail
 generalize (w.alloc (.cells A 28)).alloc (.cells Ze 45) = w1 at b1 m1 t1 ⊢
 refine wp_region_held (S := fun w' => w'.heap[w.heap.size]? = some (.cells A 28 (0, 0))) (by kernel_rfl) ?_
 have T : w1.drew.heap[w.heap.size]? = some (.cells A 28 (0, 0)) := m1
 have D : Below w.heap.size w w1.drew := b1.drew
 have R : w1.drew.heap[w.heap.size + 1]? = some (.cells Ze 45 (0, 0)) := t1
 change wpAnyH _ _ _ _ _ _ _ _ w1.drew
 clear m1 b1 t1
 generalize w1.drew = w2 at T D R ⊢
 refine tk 0 (.pointer (some ⟨w.heap.size, 0, none⟩)) rfl (fun w' hS => by go_simp) T (fun K hK => ?_); go_simp; refine hK _ _ ?_; clear hK K
 refine tk 1 (.int .i64 (ID : Int)) rfl (fun w' hS => by have q := (cell_of_heap hS 0).trans HA0.out; go_simp) T (fun K hK => ?_); go_simp; refine hK _ _ ?_; clear hK K
 refine tk 3 (.agg A) rfl (fun w' hS => by exact exec_loadRow 28 (.tmp 1) rfl w.heap.size 28 _ (0, 0) (by rfl) hS _ Tryz.underlying28 rfl (by rw [HA28.out]; rfl)) T (fun K hK => ?_); go_simp; refine hK _ _ ?_; clear hK K
 have kc := Int_any 2 ID hidl w2
 refine anyH_one 2 (by kernel_rfl) rfl (by rfl) (fun K hK => ?_); go_simp; go_wp2_with fail
 refine Calls.mono kc ?_
 rintro e w3 ⟨rfl, hb⟩
 have T9 := (hb.block _ (gl T)).trans T
 have D9 := D.trans (hb.mono D.size)
 have R9 := (hb.block _ (gl R)).trans R
 clear kc hb T D R
 have T := T9
 have D := D9
 have R := R9
 clear T9 D9 R9
 refine hK _ _ T ?_; clear hK K
 have kc := HOP.out w3 D
 refine anyH_one 4 (by kernel_rfl) rfl (by rfl) (fun K hK => ?_); go_simp; go_wp2_with fail
 refine Calls.mono kc ?_
 rintro e w4 ⟨⟨uo, rfl, huo⟩, hb⟩
 have T9 := (hb.block _ (gl T)).trans T
 have D9 := D.trans (hb.mono D.size)
 have R9 := (hb.block _ (gl R)).trans R
 clear kc hb T D R
 have T := T9
 have D := D9
 have R := R9
 clear T9 D9 R9
 refine hK _ _ T ?_; clear hK K
 obtain ⟨oc, ot, ok, ob, oks⟩ := eo
 obtain ⟨ao, co, hso⟩ := huo.shape
 subst hso
 simp only [elA, El.cls, El.tag, El.cons, El.bytes, El.kids] at huo ⊢
 have hb : Below w4.heap.size w4 (w4.alloc (.cells #[.int .i64 0, .int .i64 2, .bool false, .string ⟨(sgB ID).toArray⟩, .slice none 0 0, .int .i64 oc, .int .i64 ot, .bool ok, .string ⟨ob.toArray⟩, .slice ao oks.length co] 45)) := (Below.refl _ _).alloc (Nat.le_refl _) _
 have x : (w4.alloc (.cells #[.int .i64 0, .int .i64 2, .bool false, .string ⟨(sgB ID).toArray⟩, .slice none 0 0, .int .i64 oc, .int .i64 ot, .bool ok, .string ⟨ob.toArray⟩, .slice ao oks.length co] 45)).heap[w4.heap.size]? = some (.cells #[.int .i64 0, .int .i64 2, .bool false, .string ⟨(sgB ID).toArray⟩, .slice none 0 0, .int .i64 oc, .int .i64 ot, .bool ok, .string ⟨ob.toArray⟩, .slice ao oks.length co] 45 (0, 0)) := alloc_at _ _ _ rfl
 have o5 : OwnK (w.heap.size + 2) (w4.alloc (.cells #[.int .i64 0, .int .i64 2, .bool false, .string ⟨(sgB ID).toArray⟩, .slice none 0 0, .int .i64 oc, .int .i64 ot, .bool ok, .string ⟨ob.toArray⟩, .slice ao oks.length co] 45)) (.slice (some ⟨w4.heap.size, 0, none⟩) 2 2) [.mk 0 2 false (sgB ID) [], .mk oc ot ok ob oks] :=
  OwnK.flat (l := [.mk 0 2 false (sgB ID) [], .mk oc ot ok ob oks]) (us := [.slice none 0 0, .slice ao oks.length co]) x (by simp [flatE, El.cls, El.tag, El.cons, El.bytes]) rfl (by have := (gl R); omega) (by simp) (fun j e u q1 q2 => by
   have h3 : j = 0 ∨ j = 1 := by have h9 := (List.getElem?_eq_some_iff.1 q1).1; simp at h9; omega
   rcases h3 with rfl | rfl
   ·simp at q1 q2; subst q1; subst q2; exact KidsAt.no _ _ _ _
   ·simp at q1 q2; subst q1; subst q2; exact huo.kept fun g hg hl => ⟨hb.block g hl, fun h => by cases h; omega⟩)
 have T9 := (hb.block _ (gl T)).trans T
 have D9 := D.trans (hb.mono D.size)
 have R9 := (hb.block _ (gl R)).trans R
 clear hb x T D R huo
 have O5 := Lib.hid o5
 clear o5
 refine anyH_one 5 (by kernel_rfl) rfl (by rfl) (fun K hK => ?_); go_simp; refine hK _ _ T9 ?_; clear hK K
 generalize w4.alloc (.cells #[.int .i64 0, .int .i64 2, .bool false, .string ⟨(sgB ID).toArray⟩, .slice none 0 0, .int .i64 oc, .int .i64 ot, .bool ok, .string ⟨ob.toArray⟩, .slice ao oks.length co] 45) = w5 at T9 D9 R9 O5 ⊢
 generalize w4.heap.size = y at O5 ⊢
 refine anyH_one 6 (by kernel_rfl) rfl (by rfl) (fun K hK => ?_); go_simp; refine hK _ _ T9 ?_; clear hK K
 refine wpAnyH_done (by kernel_rfl) ?_ _
 try simp only [Exit.then]
 refine ‹∀ (a : Act) (w : World), Code.wp _ _ _ a w → _› _ _ ?_
 have q27 := (cell_of_heap T9 27).trans HA27.out
 have hn5 := (gl R9)
 have HT := Lib.hid T9
 have HR := Lib.hid R9
 have HD := Lib.hid D9
 clear T9 R9 D9
 go_wp2_with fail
 clear q27
 go_loopw [4, 6, 7, 17] (fun s4 _ _ s17 wr => CtRel w5 l.ctl s4 s17 wr) (fun _ _ _ i _ => l.ctl.length - (RowKit.intOf i).toNat)
 case atStart => exact ⟨0, rfl, Nat.zero_le _, OwnK.nil _ _, Below.refl _ _⟩
 case round =>
  obtain ⟨k, rfl, hk, ho, hbe⟩ := hrel
  obtain ⟨a4, c4, hos⟩ := ho.shape
  subst hos
  have hlen : ((l.ctl.take k).map ctlE).length = k := by simp; omega
  rw [hlen] at ho ⊢
  by_cases hkl : k < l.ctl.length
  ·obtain ⟨c, hcx⟩ : ∃ c, l.ctl[k]? = some c := ⟨_, by simp [hkl]; rfl⟩
   obtain ⟨g, o, ha, hcell⟩ := HC.out (by intro h0; rw [h0] at hkl; simp at hkl)
   subst ha
   obtain ⟨p0, p1, p2, p3⟩ := hcell k c hcx
   have hall := HD.out.trans (hbe.mono HD.out.size)
   have q0 := (hall.cell (lt_of_cell p0)).trans p0
   have q1 := (hall.cell (lt_of_cell p1)).trans p1
   have q2 := (hall.cell (lt_of_cell p2)).trans p2
   have q3 := (hall.cell (lt_of_cell p3)).trans p3
   have hmem : c ∈ l.ctl := List.mem_of_getElem? hcx
   obtain ⟨hl1, hl2⟩ := HCS.out c hmem
   have hts : (l.ctl.take (k + 1)).map ctlE = (l.ctl.take k).map ctlE ++ [ctlE c] := by rw [List.take_add_one, hcx]; simp
   have HTS := Lib.hid hts
   have i1 : decide ((k : Int) < (l.ctl.length : Int)) = true := decide_eq_true (by omega)
   have i2 : (k : Int) < (l.ctl.length : Int) := by omega
   obtain ⟨LL, hLL⟩ : ∃ LL, (l.ctl.take k).map ctlE = LL := ⟨_, rfl⟩
   rw [hLL] at ho hlen HTS
   have HO := Lib.hid ho
   have HLEN := Lib.hid hlen
   have hsz := hbe.size
   have HBE := Lib.hid hbe
   clear hcell hcx hall hmem hts hLL p0 p1 p2 p3 ho hlen hbe
   obtain ⟨C, hC⟩ : ∃ C : Array Value, #[.string ⟨c.oid.toArray⟩, .bool c.crit, .bool c.has, .string ⟨c.value.toArray⟩] = C := ⟨_, rfl⟩
   have HCC := Lib.hid hC
   clear hC
   have n1 : Below wr.heap.size wr (wr.alloc (.cells C 62)) := (Below.refl _ _).alloc (Nat.le_refl _) _
   have y1 : (wr.alloc (.cells C 62)).heap[wr.heap.size]? = some (.cells C 62 (0, 0)) := alloc_at _ _ _ rfl
   go_upto_region 6 with fail
   rw [HCC.out]
   clear q0 q1 q2 q3
   obtain ⟨Y, hY⟩ : ∃ Y, wr.heap.size = Y := ⟨_, rfl⟩
   have HY := Lib.hid hY
   rw [hY] at n1 y1 ⊢
   clear hY
   have g0 : (wr.alloc (.cells C 62)).cell? ⟨Y, 0, none⟩ = some (.string ⟨c.oid.toArray⟩) := (cell_of_heap y1 0).trans (by rw [← HCC.out]; rfl)
   generalize wr.alloc (.cells C 62) = w11 at n1 y1 g0 ⊢
   have kc := mstr_any c.oid w11
   go_wp2_with fail
   refine Calls.mono kc ?_
   rintro e w12 ⟨rfl, hb⟩
   have n2 := n1.trans (hb.mono (by have h1 := n1.size; have h2 := HY.out; omega))
   have y2 := (hb.block _ (gl y1)).trans y1
   clear kc hb n1 y1 g0
   simp only [elA, El.cls, El.tag, El.cons, El.bytes]
   have hb : Below w12.heap.size w12 (w12.alloc (.cells #[.int .i64 0, .int .i64 4, .bool false, .string ⟨c.oid.toArray⟩, .slice none 0 0] 45)) := (Below.refl _ _).alloc (Nat.le_refl _) _
   have x : (w12.alloc (.cells #[.int .i64 0, .int .i64 4, .bool false, .string ⟨c.oid.toArray⟩, .slice none 0 0] 45)).heap[w12.heap.size]? = some (.cells #[.int .i64 0, .int .i64 4, .bool false, .string ⟨c.oid.toArray⟩, .slice none 0 0] 45 (0, 0)) := alloc_at _ _ _ rfl
   have o3 : OwnK (Y + 1) (w12.alloc (.cells #[.int .i64 0, .int .i64 4, .bool false, .string ⟨c.oid.toArray⟩, .slice none 0 0] 45)) (.slice (some ⟨w12.heap.size, 0, none⟩) 1 1) [.mk 0 4 false c.oid []] :=
    OwnK.flat (l := [.mk 0 4 false c.oid []]) (us := [.slice none 0 0]) x (by simp [flatE, El.cls, El.tag, El.cons, El.bytes]) rfl (by have := (gl y2); omega) (by simp) (fun j e u q1 q2 => by
     have h3 : j = 0 := by have h9 := (List.getElem?_eq_some_iff.1 q1).1; simp at h9; omega
     subst h3
     simp at q1 q2; subst q1; subst q2; exact KidsAt.no _ _ _ _)
   have n3 := n2.trans (hb.mono (by have h1 := n2.size; have h2 := HY.out; omega))
   have y3 := (hb.block _ (gl y2)).trans y2
   clear hb x n2 y2
   go_upto_region 7 with fail
   generalize w12.alloc (.cells #[.int .i64 0, .int .i64 4, .bool false, .string ⟨c.oid.toArray⟩, .slice none 0 0] 45) = w13 at n3 y3 o3 ⊢
   generalize w12.heap.size = yb at o3 ⊢
   obtain ⟨CR, hCR⟩ : ∃ b, c.crit = b := ⟨_, rfl⟩
   have g1 : w13.cell? ⟨Y, 1, none⟩ = some (.bool CR) := (cell_of_heap y3 1).trans (by rw [← HCC.out, ← hCR]; rfl)
   have HCR := Lib.hid hCR
   clear hCR
   go_upto_if 26 with fail
   clear g1
   go_cut [7] from 27 to 30 (fun s7 wx => OwnK (Y + 1) wx s7 ([.mk 0 4 false c.oid []] ++ critK c) ∧ wx.heap[Y]? = some (.cells C 62 (0, 0)) ∧ Below Y wr wx)
   case first =>
    rcases CR.eq_false_or_eq_true with hcr | hcr
    rotate_left
    ·subst hcr
     have hl : critK c = [] := by simp [critK, HCR.out]
     go_wp2_with fail
     go_meet
     exact ⟨by rw [hl]; exact o3, y3, n3⟩
    ·subst hcr
     have hl : critK c = [.mk 0 1 false (blB true) []] := by simp [critK, HCR.out]
     have HL := Lib.hid hl
     clear hl
     have kc := Bool_any 1 true w13
     go_wp2_with fail
     refine Calls.mono kc ?_
     rintro e w14 ⟨⟨u, rfl, hu⟩, hb⟩
     obtain ⟨ae, ce, rfl⟩ := hu.empty
     have y4 := (hb.block _ (gl y3)).trans y3
     have n4 := n3.trans (hb.mono (by have h1 := n3.size; have h2 := HY.out; omega))
     have o4 := o3.below hb
     clear kc hb hu y3 n3 o3
     simp only [elA, El.cls, El.tag, El.cons, El.bytes]
     have hb : Below w14.heap.size w14 (w14.alloc (.cells #[.int .i64 0, .int .i64 1, .bool false, .string ⟨(blB true).toArray⟩, .slice ae 0 ce] 45)) := (Below.refl _ _).alloc (Nat.le_refl _) _
     have x : (w14.alloc (.cells #[.int .i64 0, .int .i64 1, .bool false, .string ⟨(blB true).toArray⟩, .slice ae 0 ce] 45)).heap[w14.heap.size]? = some (.cells (elA (.mk 0 1 false (blB true) []) (.slice ae 0 ce)) 45 (0, 0)) := alloc_at _ _ _ rfl
     have y5 := (hb.block _ (gl y4)).trans y4
     have n5 := n4.trans (hb.mono (by have h1 := n4.size; have h2 := HY.out; omega))
     have o5 := o4.below hb
     have hs5 : Y ≤ _ := (by have h1 := n5.size; have h2 := HY.out; omega : Y ≤ (w14.alloc (.cells #[.int .i64 0, .int .i64 1, .bool false, .string ⟨(blB true).toArray⟩, .slice ae 0 ce] 45)).heap.size)
     have z5 := (gl y5)
     have Y5 := Lib.hid y5
     have N5 := Lib.hid n5
     have OX5 := Lib.hid o5
     have X5 := Lib.hid x
     clear hb x y4 n4 o4 y5 n5 o5
     go_wp2_with (at_builtin; refine wpList_append_el rfl (.tmp 27) (.tmp 29) rfl (Y + 1) (.slice (some ⟨yb, 0, none⟩) 1 1) [.mk 0 4 false c.oid []] (by rfl) OX5.out (.mk 0 1 false (blB true) []) ae 0 ce w14.heap.size rfl X5.out (KidsAt.no _ _ _ _) (by simp) (by omega) ?_; intro a10 c10 w10 o10 hg; have y10 := (hg.block Y z5 (fun h => by have := (OX5.out.lt h.symm).1; omega)).trans Y5.out; have n10 := N5.out.grown hg hs5 (fun b hb => by have := (OX5.out.lt hb).1; omega); clear hg hs5 z5 Y5 N5 OX5 X5)
     go_meet
     exact ⟨by rw [HL.out]; exact o10, y10, n10⟩
   case rest =>
    clear o3 y3 n3
    obtain ⟨o3, y3, n3⟩ := hcut
    obtain ⟨a7, c7, hs7⟩ := o3.shape
    subst hs7
    obtain ⟨L7, hL7⟩ : ∃ L, ([.mk 0 4 false c.oid []] ++ critK c : List El) = L := ⟨_, rfl⟩
    have hl7 : L7.length ≤ 2 := by rw [← hL7]; unfold critK; split <;> simp
    rw [hL7] at o3 ⊢
    have HL7 := Lib.hid hL7
    clear hL7
    obtain ⟨w13', hw13⟩ : ∃ w', wc = w' := ⟨_, rfl⟩
    rw [hw13] at o3 y3 n3 ⊢
    clear hw13
    obtain ⟨HS, hHS⟩ : ∃ b, c.has = b := ⟨_, rfl⟩
    have g2 : w13'.cell? ⟨Y, 2, none⟩ = some (.bool HS) := (cell_of_heap y3 2).trans (by rw [← HCC.out, ← hHS]; rfl)
    have HHS := Lib.hid hHS
    clear hHS
    go_upto_if 32 with fail
    clear g2
    go_cut [7] from 33 to 38 (fun s7 wx => OwnK (Y + 1) wx s7 (L7 ++ hasK c) ∧ wx.heap[Y]? = some (.cells C 62 (0, 0)) ∧ Below Y wr wx)
    case first =>
     rcases HS.eq_false_or_eq_true with hcr | hcr
     rotate_left
     ·subst hcr
      have hl : hasK c = [] := by simp [hasK, HHS.out]
      go_wp2_with fail
      go_meet
      exact ⟨by rw [hl, List.append_nil]; exact o3, y3, n3⟩
     ·subst hcr
      have hl : hasK c = [.mk 0 4 false c.value []] := by simp [hasK, HHS.out]
      have HL := Lib.hid hl
      clear hl
      have g3 : w13'.cell? ⟨Y, 3, none⟩ = some (.string ⟨c.value.toArray⟩) := (cell_of_heap y3 3).trans (by rw [← HCC.out]; rfl)
      have kc := mstr_any c.value w13'
      go_wp2_with fail
      refine Calls.mono kc ?_
      rintro e w14 ⟨rfl, hb⟩
      have y4 := (hb.block _ (gl y3)).trans y3
      have n4 := n3.trans (hb.mono (by have h1 := n3.size; have h2 := HY.out; omega))
      have o4 := o3.below hb
      clear kc hb y3 n3 o3 g3
      simp only [elA, El.cls, El.tag, El.cons, El.bytes]
      have hb : Below w14.heap.size w14 (w14.alloc (.cells #[.int .i64 0, .int .i64 4, .bool false, .string ⟨c.value.toArray⟩, .slice none 0 0] 45)) := (Below.refl _ _).alloc (Nat.le_refl _) _
      have x : (w14.alloc (.cells #[.int .i64 0, .int .i64 4, .bool false, .string ⟨c.value.toArray⟩, .slice none 0 0] 45)).heap[w14.heap.size]? = some (.cells (elA (.mk 0 4 false c.value []) (.slice none 0 0)) 45 (0, 0)) := alloc_at _ _ _ rfl
      have y5 := (hb.block _ (gl y4)).trans y4
      have n5 := n4.trans (hb.mono (by have h1 := n4.size; have h2 := HY.out; omega))
      have o5 := o4.below hb
      have hs5 : Y ≤ _ := (by have h1 := n5.size; have h2 := HY.out; omega : Y ≤ (w14.alloc (.cells #[.int .i64 0, .int .i64 4, .bool false, .string ⟨c.value.toArray⟩, .slice none 0 0] 45)).heap.size)
      have z5 := (gl y5)
      have Y5 := Lib.hid y5
      have N5 := Lib.hid n5
      have OX5 := Lib.hid o5
      have X5 := Lib.hid x
      clear hb x y4 n4 o4 y5 n5 o5
      go_wp2_with (at_builtin; refine wpList_append_el rfl (.tmp 33) (.tmp 37) rfl (Y + 1) (.slice a7 L7.length c7) L7 (by rfl) OX5.out (.mk 0 4 false c.value []) none 0 0 w14.heap.size rfl X5.out (KidsAt.no _ _ _ _) (by omega) (by omega) ?_; intro a10 c10 w10 o10 hg; have y10 := (hg.block Y z5 (fun h => by have := (OX5.out.lt h.symm).1; omega)).trans Y5.out; have n10 := N5.out.grown hg hs5 (fun b hb => by have := (OX5.out.lt hb).1; omega); clear hg hs5 z5 Y5 N5 OX5 X5)
      go_meet
      exact ⟨by rw [HL.out]; exact o10, y10, n10⟩
    case rest =>
     clear o3 y3 n3
     obtain ⟨o3, -, n3⟩ := hcut
     have hLK : L7 ++ hasK c = ctlK c := by rw [← HL7.out]; rfl
     rw [hLK] at o3
     obtain ⟨a8, c8, hs8⟩ := o3.shape
     subst hs8
     obtain ⟨hsk, hsl⟩ := sm_ctl c ⟨hl1, hl2⟩
     obtain ⟨w15, hw15⟩ : ∃ w', wc = w' := ⟨_, rfl⟩
     rw [hw15] at o3 n3 ⊢
     have kc := Seq_any (ctlK c) _ w15 o3.kids hsk (by omega)
     have hoo : OwnK w5.heap.size w15 (.slice a4 k c4) LL := by
      have n3' : Below wr.heap.size wr w15 := by rw [HY.out]; exact n3
      exact HO.out.below n3'
     clear o3 hLK hw15 hsk
     go_wp2_with fail
     refine Calls.mono kc ?_
     rintro e w16 ⟨⟨u, rfl, hu⟩, hb⟩
     obtain ⟨ae, ce, hse⟩ := hu.shape
     subst hse
     have n6 := n3.trans (hb.mono (by have h1 := n3.size; have h2 := HY.out; omega))
     have o6 := hoo.below hb
     have hs16 := hb.size
     have hz15 := n3.size
     clear kc hb n3 hoo
     simp only [elA, El.cls, El.tag, El.cons, El.bytes]
     have hb : Below w16.heap.size w16 (w16.alloc (.cells #[.int .i64 0, .int .i64 16, .bool true, .string ⟨#[]⟩, .slice ae (ctlK c).length ce] 45)) := (Below.refl _ _).alloc (Nat.le_refl _) _
     have x : (w16.alloc (.cells #[.int .i64 0, .int .i64 16, .bool true, .string ⟨#[]⟩, .slice ae (ctlK c).length ce] 45)).heap[w16.heap.size]? = some (.cells (elA (ctlE c) (.slice ae (ctlK c).length ce)) 45 (0, 0)) := alloc_at _ _ _ rfl
     have hu7 : KidsAt (fun g => (Value.slice a4 k c4).ownBlock ≠ some g) (w16.alloc (.cells #[.int .i64 0, .int .i64 16, .bool true, .string ⟨#[]⟩, .slice ae (ctlK c).length ce] 45)) (.slice ae (ctlK c).length ce) (ctlE c).kids := hu.kept fun g hg hl => ⟨hb.block g hl, fun h => by have h1 := (HO.out.lt h).2; have h2 := n6.size; have h3 := HY.out; have h4 : w15.heap.size ≤ g := hg; omega⟩
     have n7 := n6.trans (hb.mono (by have h1 := n6.size; have h2 := HY.out; omega))
     have o7 := o6.below hb
     have N7 := Lib.hid n7
     have OX7 := Lib.hid o7
     have X7 := Lib.hid x
     have U7 := Lib.hid hu7
     have hz7 := n7.size
     clear hb x n6 o6 n7 o7 hu7 hu
     go_wp2_with (at_builtin; refine wpList_append_el rfl (.tmp 39) (.tmp 42) rfl w5.heap.size (.slice a4 k c4) LL (by rfl) OX7.out (ctlE c) ae (ctlK c).length ce w16.heap.size rfl X7.out U7.out (by rw [HLEN.out]; omega) (by have := HY.out; omega) ?_; intro a10 c10 w10 o10 hg)
     rw [HLEN.out] at o10 ⊢
     have hfin : Below w5.heap.size w5 w10 := by
      have h1 : Below w5.heap.size w5 (w16.alloc (.cells #[.int .i64 0, .int .i64 16, .bool true, .string ⟨#[]⟩, .slice ae (ctlK c).length ce] 45)) := HBE.out.trans (N7.out.mono (by have := HY.out; omega))
      exact h1.grown hg h1.size (fun b hb => (OX7.out.lt hb).1)
     exact ⟨⟨k + 1, by go_num, by omega, by rw [HTS.out]; exact o10, hfin⟩, by simp [RowKit.intOf]; omega⟩
  ·obtain rfl : k = l.ctl.length := by omega
   rw [List.take_of_length_le (Nat.le_refl _)] at ho hlen
   have t5 := (hbe.block _ hn5).trans HR.out
   have b5 := HD.out.trans (hbe.mono HD.out.size)
   have o5 := O5.out.below hbe
   have hsz := hbe.size
   have lt3 : ∀ g, (Value.slice (some ⟨y, 0, none⟩) 2 2).ownBlock = some g → w.heap.size + 2 ≤ g ∧ g < w5.heap.size := fun g hg => O5.out.lt hg
   obtain ⟨w6, hw6⟩ : ∃ w', wr = w' := ⟨_, rfl⟩
   rw [hw6] at ho t5 b5 o5 hsz ⊢
   clear hw6 hbe
   by_cases hz : l.ctl = []
   ·have hKn : K = [.mk 0 2 false (sgB ID) [], .mk oc ot ok ob oks] := by rw [HKK.out, if_pos hz, List.append_nil]
    have hl0 : l.ctl.length = 0 := by rw [hz]; rfl
    rw [hl0]
    have kc := Seq_any [.mk 0 2 false (sgB ID) [], .mk oc ot ok ob oks] _ w6 o5.kids (by have h1 := HSO.out; have h2 := (sgB_len ID).2; simp only [SmL]; exact ⟨by simp [SmE, SmL]; omega, h1, trivial⟩) (by simp)
    rw [← hKn] at kc
    have HKN := Lib.hid hKn
    clear ho o5 hz hKn hl0
    go_wp2_with fail
    refine Calls.mono kc ?_
    rintro e w7 ⟨⟨u, rfl, hu⟩, hb⟩
    have t7 := (hb.block _ (gl t5)).trans t5
    have b7 := b5.trans (hb.mono b5.size)
    clear kc hb t5 b5
    obtain ⟨E, hE⟩ : ∃ E, elA (.mk 0 16 true [] K) u = E := ⟨_, rfl⟩
    have hE1 : E.all (·.oneCell') = true := by
     obtain ⟨a, c, hsl⟩ := hu.shape
     subst hsl
     rw [← hE]; simp [elA, Value.oneCell']
    have hE2 : E.size = 5 := by rw [← hE]; rfl
    rw [hE]
    have bF := below_row b7 (g := w.heap.size + 1) (by omega) E
    have tF := setRow_heap w7 (w.heap.size + 1) _ E _ _ t7
    have uF : KidsAt (fun g => w.heap.size ≤ g) (w7.setRow (w.heap.size + 1) E) u K := hu.kept fun g hg hl => ⟨setRow_other w7 (w.heap.size + 1) g E (by omega), by omega⟩
    have HE := Lib.hid hE
    have HE1 := Lib.hid hE1
    have HE2 := Lib.hid hE2
    have UF := Lib.hid uF
    clear hu hE hE1 hE2 uF b7
    go_wp2_with (refine wpList_storeRow rfl 45 (.tmp 2) (.tmp 55) rfl (w.heap.size + 1) 45 _ E (by rfl) (by rfl) t7 (by rw [HE2.out]; rfl) (by rw [HE2.out]; rfl) HE1.out ?_)
    refine bodyPost_ret (v := .agg E) ?_ rfl (by rw [HPR.out]; exact ⟨⟨u, by rw [HE.out], UF.out⟩, bF⟩)
    have hr := run_loadVar_row (P := Tryz.prog) (w7.setRow (w.heap.size + 1) E) (w.heap.size + 1) 45 45 E (0, 0) _ tF (show Tryz.prog.underlying 45 = _ from Tryz.underlying45) (by rfl) (by rw [HE2.out]; rfl)
    simp [results, Tryz.f31]
    exact hr
   ·have hKn : K = [.mk 0 2 false (sgB ID) [], .mk oc ot ok ob oks] ++ [.mk 2 0 true [] (l.ctl.map ctlE)] := by rw [HKK.out, if_neg hz]
    have hpos : 0 < l.ctl.length := List.length_pos_iff.2 hz
    have i1 : decide ((l.ctl.length : Int) > 0) = true := decide_eq_true (by omega)
    have i2 : decide ((0 : Int) < (l.ctl.length : Int)) = true := decide_eq_true (by omega)
    have i3 : (0 : Int) < (l.ctl.length : Int) := by omega
    have HKN := Lib.hid hKn
    clear hz hKn
    have kc := Seq_any (l.ctl.map ctlE) _ w6 ho.kids HSC.out (by simp; omega)
    clear ho
    go_wp2_with fail
    refine Calls.mono kc ?_
    rintro e w7 ⟨⟨u, rfl, hu⟩, hb⟩
    have t7 := (hb.block _ (gl t5)).trans t5
    have b7 := b5.trans (hb.mono b5.size)
    have o7 := o5.below hb
    have hsz7 := hb.size
    clear kc hb t5 b5 o5
    have kc := ctx_any (.mk 0 16 true [] (l.ctl.map ctlE)) u 0 w7 (hu.mono (fun _ _ _ => trivial)) (by simp only [SmE, List.length_map]; exact ⟨by simp, by omega, HSC.out⟩)
    simp only [El.cons, El.bytes, El.kids] at kc
    clear hu
    go_wp2_with fail
    refine Calls.mono kc ?_
    rintro e w8 ⟨⟨u2, rfl, hu2⟩, hb⟩
    obtain ⟨ae, ce, hse⟩ := hu2.shape
    simp only [El.kids, List.length_map] at hse
    subst hse
    have t8 := (hb.block _ (gl t7)).trans t7
    have b8 := b7.trans (hb.mono b7.size)
    have o8 := o7.below hb
    clear kc hb t7 b7 o7
    simp only [elA, El.cls, El.tag, El.cons, El.bytes]
    have hb : Below w8.heap.size w8 (w8.alloc (.cells #[.int .i64 2, .int .i64 0, .bool true, .string ⟨#[]⟩, .slice ae l.ctl.length ce] 45)) := (Below.refl _ _).alloc (Nat.le_refl _) _
    have x : (w8.alloc (.cells #[.int .i64 2, .int .i64 0, .bool true, .string ⟨#[]⟩, .slice ae l.ctl.length ce] 45)).heap[w8.heap.size]? = some (.cells (elA (.mk 2 0 true [] (l.ctl.map ctlE)) (.slice ae l.ctl.length ce)) 45 (0, 0)) := alloc_at _ _ _ rfl
    have hu9 : KidsAt (fun g => (Value.slice (some ⟨y, 0, none⟩) 2 2).ownBlock ≠ some g) (w8.alloc (.cells #[.int .i64 2, .int .i64 0, .bool true, .string ⟨#[]⟩, .slice ae l.ctl.length ce] 45)) (.slice ae l.ctl.length ce) (l.ctl.map ctlE) := hu2.kept fun g hg hl => ⟨hb.block g hl, fun h => by have h1 := (lt3 g h).2; have h4 : w7.heap.size ≤ g := hg; omega⟩
    have t9 := (hb.block _ (gl t8)).trans t8
    have b9 := b8.trans (hb.mono b8.size)
    have o9 := o8.below hb
    have hs9 := b9.size
    have z9 := (gl t9)
    have T9 := Lib.hid t9
    have B9 := Lib.hid b9
    have O9 := Lib.hid o9
    have X9 := Lib.hid x
    have U9 := Lib.hid hu9
    clear hb x t8 b8 o8 t9 b9 o9 hu2 hu9
    go_wp2_with (at_builtin; refine wpList_append_el rfl (.tmp 48) (.tmp 52) rfl (w.heap.size + 2) (.slice (some ⟨y, 0, none⟩) 2 2) [.mk 0 2 false (sgB ID) [], .mk oc ot ok ob oks] (by rfl) O9.out (.mk 2 0 true [] (l.ctl.map ctlE)) ae l.ctl.length ce w8.heap.size rfl X9.out U9.out (by simp) (by omega) ?_; intro a10 c10 w10 o10 hg; have t10 := (hg.block (w.heap.size + 1) z9 (fun h => by have := (O9.out.lt h.symm).1; omega)).trans T9.out; have b10 := B9.out.grown hg hs9 (fun b hb => by have := (O9.out.lt hb).1; omega); clear hg hs9 z9 T9 B9 O9 X9 U9)
    rw [← HKN.out] at o10
    have kc := Seq_any K _ w10 o10.kids (by
     have h1 := HSO.out
     have h2 := (sgB_len ID).2
     rw [HKN.out]
     simp only [List.cons_append, List.nil_append, SmL]
     exact ⟨by simp [SmE, SmL]; omega, h1, by simp only [SmE, List.length_map]; exact ⟨by simp, by omega, HSC.out⟩, trivial⟩) (by rw [HKN.out]; simp)
    clear o10
    simp only [List.length_cons, List.length_nil, Nat.zero_add, Nat.reduceAdd] at kc ⊢
    go_wp2_with fail
    refine Calls.mono kc ?_
    rintro e w7 ⟨⟨u, rfl, hu⟩, hb⟩
    have t7 := (hb.block _ (gl t10)).trans t10
    have b7 := b10.trans (hb.mono b10.size)
    have hsz := b10.size
    have hn5 := (gl t10)
    clear kc hb t10 b10
    obtain ⟨E, hE⟩ : ∃ E, elA (.mk 0 16 true [] K) u = E := ⟨_, rfl⟩
    have hE1 : E.all (·.oneCell') = true := by
     obtain ⟨a, c, hsl⟩ := hu.shape
     subst hsl
     rw [← hE]; simp [elA, Value.oneCell']
    have hE2 : E.size = 5 := by rw [← hE]; rfl
    rw [hE]
    have bF := below_row b7 (g := w.heap.size + 1) (by omega) E
    have tF := setRow_heap w7 (w.heap.size + 1) _ E _ _ t7
    have uF : KidsAt (fun g => w.heap.size ≤ g) (w7.setRow (w.heap.size + 1) E) u K := hu.kept fun g hg hl => ⟨setRow_other w7 (w.heap.size + 1) g E (by omega), by omega⟩
    have HE := Lib.hid hE
    have HE1 := Lib.hid hE1
    have HE2 := Lib.hid hE2
    have UF := Lib.hid uF
    clear hu hE hE1 hE2 uF b7
    go_wp2_with (refine wpList_storeRow rfl 45 (.tmp 2) (.tmp 55) rfl (w.heap.size + 1) 45 _ E (by rfl) (by rfl) t7 (by rw [HE2.out]; rfl) (by rw [HE2.out]; rfl) HE1.out ?_)
    refine bodyPost_ret (v := .agg E) ?_ rfl (by rw [HPR.out]; exact ⟨⟨u, by rw [HE.out], UF.out⟩, bF⟩)
    have hr := run_loadVar_row (P := Tryz.prog) (w7.setRow (w.heap.size + 1) E) (w.heap.size + 1) 45 45 E (0, 0) _ tF (show Tryz.prog.underlying 45 = _ from Tryz.underlying45) (by rfl) (by rw [HE2.out]; rfl)
    simp [results, Tryz.f31]
    exact hr
end Go.Proofs.YthjaiigijbjloaaGreatDoor
