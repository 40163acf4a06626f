/- message.element without controls; message.op at a Bind. (Written by genmss.py.) -/
import Derived.Test.YtaojidcneocelaaGreatDoorMsR
import Derived.Test.YtaojidcneocelaaGreatDoorMsM
namespace Go.Proofs.YtaojidcneocelaaGreatDoor
open Go.RowKit Go.Lib

theorem mods_seq (w : World) : Calls Tryz.prog 103 #[.slice none 0 0] w fun e w' => (∃ v, e = .returned v ∧ SeqV [] v w') ∧ Below w.heap.size w w' :=
  (mods_nil2 w).mono fun _ _ ⟨⟨u, h, hu⟩, hb⟩ => ⟨⟨_, h, u, rfl, hu.mono fun _ _ _ => trivial⟩, hb⟩
theorem attrs_seq (w : World) : Calls Tryz.prog 104 #[.slice none 0 0] w fun e w' => (∃ v, e = .returned v ∧ SeqV [] v w') ∧ Below w.heap.size w w' :=
  (attrs_nil2 w).mono fun _ _ ⟨⟨u, h, hu⟩, hb⟩ => ⟨⟨_, h, u, rfl, hu.mono fun _ _ _ => trivial⟩, hb⟩
theorem callee2 (args : Array Value) (w : World) : (callFunc 98 args).run Tryz.prog w = .ok (.enter 98 args) w := by go_simp
/-- A Bind's element. -/
def bindE (v : Nat) (dn secret : List UInt8) : El := .mk 1 0 true [] [.mk 0 2 false [UInt8.ofNat v] [], .mk 0 4 false dn [], .mk 2 0 false secret []]
theorem op_bind (n : Int) (v : Nat) (dn secret : List UInt8) (hv : v ≤ 127) (hd : dn.length ≤ 1000000000) (hs : secret.length ≤ 1000000000) (w : World) :
    Calls Tryz.prog 69 #[.agg (Mg.row { id := n, op := 0, ver := v, dn := dn, secret := secret })] w fun e w' => (∃ u, e = .returned (.agg (elA (bindE v dn secret) u)) ∧ KidsAt (fun g => w.heap.size ≤ g) w' u (bindE v dn secret).kids) ∧ Below w.heap.size w w' := by
  refine op_known ⟨w.heap.size, dn, [], [], .slice none 0 0, .slice none 0 0, [], []⟩ _ w 2 0 (by decide) (.mk 0 16 true [] [.mk 0 2 false [UInt8.ofNat v] [], .mk 0 4 false dn [], .mk 2 0 false secret []]) (by simp [SmE, SmL]; exact ⟨hd, hs⟩) rfl rfl rfl rfl rfl rfl rfl (by simp) (by simp) (fun w' _ => mods_seq w') (fun w' _ => attrs_seq w') ?_
  intro V w' hV hb hM
  have hV : V = .func (.func 98) #[] #[.pointer (some ⟨w.heap.size, 0, none⟩)] := hV
  subst hV
  refine ⟨_, _, rfl, callee2, ?_⟩
  refine (bindop_any w.heap.size v _ dn secret w' hM hv rfl rfl rfl rfl hd hs).mono ?_
  rintro e w'' ⟨⟨u, rfl, hu⟩, hb'⟩
  exact ⟨⟨u, rfl, hu.mono fun _ _ _ => trivial⟩, hb'⟩
set_option maxRecDepth 100000 in
set_option maxHeartbeats 4000000 in
theorem element_nil (A : Array Value) (w : World) (id : Int) (ib : List UInt8) (eo : El) (hsz : A.size = 28) (h0 : A[0]? = some (.int .i64 id)) (h27 : A[27]? = some (.slice none 0 0)) (hso : SmE eo) (hsi : ib.length ≤ 1000000000)
    (hint : ∀ w', Calls Tryz.prog 68 #[.int .i64 2, .int .i64 id] w' fun e w'' => e = .returned (.agg (elA (.mk 0 2 false ib []) (.slice none 0 0))) ∧ Below w'.heap.size w' w'')
    (hop : ∀ w', Below w.heap.size w w' → Calls Tryz.prog 69 #[.agg A] w' fun e w'' => (∃ u, e = .returned (.agg (elA eo u)) ∧ KidsAt (fun g => w'.heap.size ≤ g) w'' u eo.kids) ∧ Below w'.heap.size w' w'') :
    Calls Tryz.prog 43 #[.agg A] w fun e w' => (∃ u, e = .returned (.agg (elA (.mk 0 16 true [] [.mk 0 2 false ib [], eo]) u)) ∧ KidsAt (fun g => w.heap.size ≤ g) w' u [.mk 0 2 false ib [], eo]) ∧ Below w.heap.size w w' := by
  obtain ⟨PR, hPR⟩ : ∃ PR : Ending → World → Prop, PR = fun e w' => (∃ u, e = .returned (.agg (elA (.mk 0 16 true [] [.mk 0 2 false ib [], eo]) u)) ∧ KidsAt (fun g => w.heap.size ≤ g) w' u [.mk 0 2 false ib [], eo]) ∧ Below w.heap.size w w' := ⟨_, rfl⟩
  rw [← hPR]
  have HPR := Lib.hid hPR
  clear hPR
  have b1 : Below w.heap.size w ((w.alloc (.cells A 32)).alloc (.cells #[.int .i64 0, .int .i64 0, .bool false, .string ⟨#[]⟩, .slice none 0 0] 76)) := ((Below.refl _ _).alloc (Nat.le_refl _) _).alloc (by simp) _
  have m1 : ((w.alloc (.cells A 32)).alloc (.cells #[.int .i64 0, .int .i64 0, .bool false, .string ⟨#[]⟩, .slice none 0 0] 76)).heap[w.heap.size]? = some (.cells A 32 (0, 0)) := (Lib.alloc_old _ _ _ (by simp)).trans (alloc_at _ _ _ rfl)
  have t1 : ((w.alloc (.cells A 32)).alloc (.cells #[.int .i64 0, .int .i64 0, .bool false, .string ⟨#[]⟩, .slice none 0 0] 76)).heap[w.heap.size + 1]? = some (.cells #[.int .i64 0, .int .i64 0, .bool false, .string ⟨#[]⟩, .slice none 0 0] 76 (0, 0)) := alloc_at _ _ _ (by simp)
  have G0 := Lib.hid h0
  have G27 := Lib.hid h27
  have HZ := Lib.hid hsz
  have HOP := Lib.hid hop
  have HINT := Lib.hid hint
  have HSO := Lib.hid hso
  clear h0 h27 hsz hop hint hso
  go_enter Tryz.func43, Tryz.ntmps43
  go_upto_region 1 with fail
  generalize (w.alloc (.cells A 32)).alloc (.cells #[.int .i64 0, .int .i64 0, .bool false, .string ⟨#[]⟩, .slice none 0 0] 76) = w1 at b1 m1 t1 ⊢
  refine wp_region_held (S := fun w' => w'.heap[w.heap.size]? = some (.cells A 32 (0, 0))) (by kernel_rfl) ?_
  have T : w1.drew.heap[w.heap.size]? = some (.cells A 32 (0, 0)) := m1
  have D : Below w.heap.size w w1.drew := b1.drew
  have R : w1.drew.heap[w.heap.size + 1]? = some (.cells #[.int .i64 0, .int .i64 0, .bool false, .string ⟨#[]⟩, .slice none 0 0] 76 (0, 0)) := t1
  change wpAnyH _ _ _ _ _ _ _ _ w1.drew
  clear m1 t1 b1
  generalize w1.drew = w5 at T D R ⊢
  refine anyH_take 0 (.pointer (some ⟨w.heap.size, 0, none⟩)) rfl (by kernel_rfl) (by kernel_rfl) (by kernel_rfl) (fun _ _ _ h => h) (by rfl) (fun w' hS => by go_simp) T (fun K hK => ?_); go_simp; refine hK _ _ ?_; clear hK K
  refine anyH_take 1 (.int .i64 id) rfl (by kernel_rfl) (by kernel_rfl) (by kernel_rfl) (fun _ _ _ h => h) (by rfl) (fun w' hS => by have q := (Lib.cell_of_heap hS 0).trans G0.out; go_simp) T (fun K hK => ?_); go_simp; refine hK _ _ ?_; clear hK K
  refine anyH_take 3 (.agg A) rfl (by kernel_rfl) (by kernel_rfl) (by kernel_rfl) (fun _ _ _ h => h) (by rfl) (fun w' hS => exec_loadRow 32 (.tmp 1) rfl w.heap.size 32 _ (0, 0) (by rfl) hS _ Tryz.underlying32 rfl (by rw [HZ.out]; rfl)) T (fun K hK => ?_); go_simp; refine hK _ _ ?_; clear hK K
  have kc := HINT.out w5
  refine anyH_one 2 (by kernel_rfl) rfl (by rfl) (fun K hK => ?_); go_simp; go_wp2_with fail
  refine Calls.mono (show Calls _ _ _ _ _ from kc) ?_
  rintro e w6 ⟨rfl, hb6⟩
  have T6 := (hb6.block _ (Array.getElem?_eq_some_iff.1 T).1).trans T
  have R6 := (hb6.block _ (Array.getElem?_eq_some_iff.1 R).1).trans R
  have D6 := D.trans (hb6.mono D.size)
  clear kc hb6 T R D HINT
  refine hK _ _ T6 ?_; clear hK K
  have kc := HOP.out w6 D6
  refine anyH_one 4 (by kernel_rfl) rfl (by rfl) (fun K hK => ?_); go_simp; go_wp2_with fail
  refine Calls.mono (show Calls _ _ _ _ _ from kc) ?_
  rintro e w7 ⟨⟨u7, rfl, hu7⟩, hb7⟩
  have T7 := (hb7.block _ (Array.getElem?_eq_some_iff.1 T6).1).trans T6
  have R7 := (hb7.block _ (Array.getElem?_eq_some_iff.1 R6).1).trans R6
  have D7 := D6.trans (hb7.mono D6.size)
  have hs7 := (Array.getElem?_eq_some_iff.1 R7).1
  clear kc hb7 T6 R6 D6 HOP
  refine hK _ _ T7 ?_; clear hK K
  obtain ⟨a7, c7, rfl⟩ := hu7.shape
  have hk8 := bs_kids (e1 := .mk 0 2 false ib []) (e2 := eo) (KidsAt.nil _ w7) (hu7.mono fun _ _ _ => trivial)
  refine anyH_one 5 (by kernel_rfl) rfl (by rfl) (fun K hK => ?_)
  refine wp_value (exec_bs2 (e1 := .mk 0 2 false ib []) (e2 := eo) rfl rfl rfl) ?_
  have g8 : Below w7.heap.size w7 (w7.alloc (.cells #[.int .i64 (El.mk 0 2 false ib []).cls, .int .i64 (El.mk 0 2 false ib []).tag, .bool (El.mk 0 2 false ib []).cons, .string ⟨(El.mk 0 2 false ib []).bytes.toArray⟩, .slice none 0 0, .int .i64 eo.cls, .int .i64 eo.tag, .bool eo.cons, .string ⟨eo.bytes.toArray⟩, .slice a7 eo.kids.length c7] 76)) := (Below.refl _ _).alloc (Nat.le_refl _) _
  have T8 := (g8.block _ (Array.getElem?_eq_some_iff.1 T7).1).trans T7
  have R8 := (g8.block _ (Array.getElem?_eq_some_iff.1 R7).1).trans R7
  have D8 := D7.trans (g8.mono D7.size)
  refine hK _ _ T8 ?_; clear hK K
  generalize w7.alloc (.cells #[.int .i64 (El.mk 0 2 false ib []).cls, .int .i64 (El.mk 0 2 false ib []).tag, .bool (El.mk 0 2 false ib []).cons, .string ⟨(El.mk 0 2 false ib []).bytes.toArray⟩, .slice none 0 0, .int .i64 eo.cls, .int .i64 eo.tag, .bool eo.cons, .string ⟨eo.bytes.toArray⟩, .slice a7 eo.kids.length c7] 76) = w8 at hk8 T8 R8 D8 ⊢
  clear g8 T7 R7 D7 hu7
  refine anyH_one 6 (by kernel_rfl) rfl (by rfl) (fun K hK => ?_); go_simp
  refine hK _ _ T8 ?_; clear hK K
  refine wpAnyH_done (by kernel_rfl) ?_ _
  simp only [Exit.then]
  refine ‹∀ (a : Act) (w : World), Code.wp _ _ _ a w → _› _ _ ?_
  have q27 := (Lib.cell_of_heap T8 27).trans G27.out
  have ks := Seq_any [.mk 0 2 false ib [], eo] _ w8 hk8 (by simp only [SmL, SmE]; exact ⟨⟨hsi, by simp, trivial⟩, HSO.out, trivial⟩) (by simp)
  have HK := Lib.hid ks
  clear ks
  go_wp2_with fail
  refine wp_loop_rounds 1 ?_
  rw [rounds_succ]
  go_wp2_with fail
  refine Calls.mono (show Calls _ _ _ _ _ from HK.out) ?_
  rintro e w9 ⟨⟨u, rfl, hu⟩, hb2⟩
  have t9 := (hb2.block _ (Array.getElem?_eq_some_iff.1 R8).1).trans R8
  have b9 := D8.trans (hb2.mono D8.size)
  have hs8 := (Array.getElem?_eq_some_iff.1 R8).1
  clear HK hk8 q27 T8 R8 D8 hb2
  obtain ⟨E, hE⟩ : ∃ E, elA (.mk 0 16 true [] [.mk 0 2 false ib [], eo]) u = E := ⟨_, rfl⟩
  have hE1 : E.all (·.oneCell') = true := by
    obtain ⟨a, c, hsl⟩ := hu.shape
    subst hsl
    rw [← hE]; simp [elA, Value.oneCell']
  have hE2 : E.size = 5 := by rw [← hE]; rfl
  rw [hE]
  have b3 := below_row b9 (g := w.heap.size + 1) (by omega) E
  have t3 := setRow_heap w9 (w.heap.size + 1) _ E _ _ t9
  have u3 : KidsAt (fun g => w.heap.size ≤ g) (w9.setRow (w.heap.size + 1) E) u [.mk 0 2 false ib [], eo] := hu.kept fun g hg hl => ⟨setRow_other w9 (w.heap.size + 1) g E (by omega), by omega⟩
  have HE := Lib.hid hE
  have HE1 := Lib.hid hE1
  have HE2 := Lib.hid hE2
  have U3 := Lib.hid u3
  clear hu hE hE1 hE2 u3
  go_wp2_with (refine wpList_storeRow rfl 76 (.tmp 2) (.tmp 55) rfl (w.heap.size + 1) 76 _ E (by rfl) (by rfl) t9 (by rw [HE2.out]; rfl) (by rw [HE2.out]; rfl) HE1.out ?_)
  refine bodyPost_ret (v := .agg E) ?_ rfl (by rw [HPR.out]; exact ⟨⟨u, by rw [HE.out], U3.out⟩, b3⟩)
  have hr := run_loadVar_row (P := Tryz.prog) (w9.setRow (w.heap.size + 1) E) (w.heap.size + 1) 76 76 E (0, 0) _ t3 (show Tryz.prog.underlying 76 = _ from Tryz.underlying76) (by rfl) (by rw [HE2.out]; rfl)
  simp [results, Tryz.f43]
  exact hr
end Go.Proofs.YtaojidcneocelaaGreatDoor
