/- Cells that stay; a region in every order; closures of message.op. (Written by genmsg.py.) -/
import Derived.Test.YtaojidcneocelaaGreatDoorBerK
namespace Go.Proofs.YtaojidcneocelaaGreatDoor
open Go.RowKit Go.Lib

/-- All cells stay. -/
def Hk (w w' : World) : Prop := (∀ (g : Nat) (cs : Array Value) (t : TypeId) (fr : Nat × Nat), w.heap[g]? = some (.cells cs t fr) → w'.heap[g]? = some (.cells cs t fr)) ∧ ∀ (g i : Nat) (x : Value), w.cell? ⟨g, i, none⟩ = some x → w'.cell? ⟨g, i, none⟩ = some x
theorem Hk.refl (w : World) : Hk w w := ⟨fun _ _ _ _ h => h, fun _ _ _ h => h⟩
theorem Hk.trans {a b c : World} (h : Hk a b) (k : Hk b c) : Hk a c := ⟨fun _ _ _ _ q => k.1 _ _ _ _ (h.1 _ _ _ _ q), fun _ _ _ q => k.2 _ _ _ (h.2 _ _ _ q)⟩
theorem Hk.below {w w' : World} (h : Below w.heap.size w w') : Hk w w' := ⟨fun g _ _ _ q => (h.block g (Array.getElem?_eq_some_iff.1 q).1).trans q, fun _ _ _ q => (h.cell (lt_of_cell q)).trans q⟩
theorem Hk.map {w w' : World} {r : Nat} {es : Array MapEntry} {c : Nat} (hr : w.heap[r]? = some (.map es c)) (h : ∀ j, j ≠ r → w'.heap[j]? = w.heap[j]?) : Hk w w' := by
  refine ⟨fun g cs t fr q => ?_, fun g i x q => ?_⟩
  · by_cases hg : g = r
    · subst hg; rw [hr] at q; cases q
    · exact (h g hg).trans q
  · by_cases hg : g = r
    · subst hg; simp [World.cell?, hr] at q
    · exact (cell_same (h g hg)).trans q
mutual
theorem ElC.hk {P : Nat → Prop} {w w' : World} (h : Hk w w') : ∀ (e : El) (g o : Nat), ElC P w e g o → ElC P w' e g o
  | .mk c t k b ks, g, o, q => by
    simp only [ElC] at q ⊢
    obtain ⟨h0, h1, h2, h3, u, h4, a, cap, hu, hc, hk⟩ := q
    refine ⟨h.2 _ _ _ h0, h.2 _ _ _ h1, h.2 _ _ _ h2, h.2 _ _ _ h3, u, h.2 _ _ _ h4, a, cap, hu, hc, fun hn => ?_⟩
    obtain ⟨g', o', ha, hp, hs⟩ := hk hn
    exact ⟨g', o', ha, hp, ElsC.hk h ks g' o' hs⟩
theorem ElsC.hk {P : Nat → Prop} {w w' : World} (h : Hk w w') : ∀ (l : List El) (g o : Nat), ElsC P w l g o → ElsC P w' l g o
  | [], _, _, _ => by simp only [ElsC]
  | e :: r, g, o, q => by
    simp only [ElsC] at q ⊢
    exact ⟨ElC.hk h e g o q.1, ElsC.hk h r g (o + 5) q.2⟩
end
theorem KidsAt.hk {P : Nat → Prop} {w w' : World} {v : Value} {ks : List El} (q : KidsAt P w v ks) (h : Hk w w') : KidsAt P w' v ks := by
  obtain ⟨a, cap, hv, hc, hk⟩ := q
  refine ⟨a, cap, hv, hc, fun hn => ?_⟩
  obtain ⟨g, o, ha, hp, hs⟩ := hk hn
  exact ⟨g, o, ha, hp, ElsC.hk h ks g o hs⟩
/-! A region in every order: by what holds behind each of its operations. -/
def openOnes (listed : Array Bool) : Nat := (listed.toList.filter (!·)).length
theorem filter_set : ∀ (l : List Bool) (i : Nat), l[i]? = some false → ((l.set i true).filter (!·)).length + 1 = (l.filter (!·)).length
  | [], i, h => by simp at h
  | b :: l, 0, h => by
    simp at h
    subst h
    simp
  | b :: l, i + 1, h => by
    have ih := filter_set l i (by simpa using h)
    cases b <;> simp at ih ⊢ <;> omega
theorem open_set {listed : Array Bool} {i : Nat} (h : listed.getD i true = false) : openOnes (listed.setIfInBounds i true) + 1 = openOnes listed := by
  unfold openOnes
  have h1 : listed.toList[i]? = some false := by
    rcases Nat.lt_or_ge i listed.size with h' | h'
    · simp [h'] at h ⊢; exact h
    · simp [Array.getElem?_eq_none h'] at h
  rw [Array.toList_setIfInBounds]
  exact filter_set _ _ h1
theorem all_listed {md : Region.Mode} {ops : Array Oper} (hdown : ∀ (i : Nat) (o : Oper), ops[i]? = some o → ∀ e ∈ o.after, Region.binds md e = true → e.on < i) {listed : Array Bool} (hsz : listed.size = ops.size) (hr : Region.ready md ops listed = []) :
    ∀ i, i < ops.size → listed.getD i false = true := by
  intro i
  induction i using Nat.strongRecOn with
  | _ i ih =>
    intro hi
    cases hx : listed.getD i false with
    | true => rfl
    | false =>
      exfalso
      have ho : ops[i]? = some ops[i] := by simp [hi]
      have hm : i ∈ Region.ready md ops listed := mem_ready.2 ⟨by
        have : i < listed.size := by omega
        simp [this] at hx ⊢; exact hx, ops[i], ho, fun e he hb => ih e.on (hdown i _ ho e he hb) (by have := hdown i _ ho e he hb; omega)⟩
      rw [hr] at hm
      cases hm
theorem wpAny_inv {P : Program} {md : Region.Mode} {ops : Array Oper} {Q : Exit → Act → World → Prop} (I : Array Bool → Act → World → Prop)
    (hdown : ∀ (i : Nat) (o : Oper), ops[i]? = some o → ∀ e ∈ o.after, Region.binds md e = true → e.on < i)
    (hdone : ∀ (listed : Array Bool) (a : Act) (w : World), (∀ i, i < ops.size → listed.getD i false = true) → I listed a w → Q .normal a w)
    (hstep : ∀ (i : Nat) (o : Oper) (listed : Array Bool) (a : Act) (w : World), ops[i]? = some o → listed.getD i true = false → listed.size = ops.size → (∀ e ∈ o.after, Region.binds md e = true → listed.getD e.on false = true) → I listed a w →
      wpOp P ops Q i (I (listed.setIfInBounds i true)) a w) :
    ∀ (fuel : Nat) (listed : Array Bool) (a : Act) (w : World), listed.size = ops.size → openOnes listed ≤ fuel → I listed a w → wpAny P md ops Q fuel listed a w := by
  intro fuel
  induction fuel with
  | zero =>
    intro listed a w hsz hf hI
    have hr : Region.ready md ops listed = [] := by
      cases hx : Region.ready md ops listed with
      | nil => rfl
      | cons j js =>
        have hj : j ∈ Region.ready md ops listed := by rw [hx]; exact List.mem_cons_self
        have := open_set (mem_ready.1 hj).1
        omega
    exact ⟨hr, hdone _ _ _ (all_listed hdown hsz hr) hI⟩
  | succ fuel ih =>
    intro listed a w hsz hf hI
    refine ⟨fun hr => hdone _ _ _ (all_listed hdown hsz hr) hI, fun i hi => ?_⟩
    obtain ⟨hn, o, ho, hall⟩ := mem_ready.1 hi
    have h1 := open_set hn
    exact wpOp_mono (fun a' w' h => ih _ a' w' (by simpa using hsz) (by omega) h) (hstep i o listed a w ho hn hsz hall hI)
theorem wpOp_of {P : Program} {ops : Array Oper} {Q : Exit → Act → World → Prop} {K : Act → World → Prop} {i : Nat} {o : Oper} {a : Act} {w : World} (ho : ops[i]? = some o) (hw : Region.wanted o (yielded ops a.tmps) = true)
    (h : ∀ K' : Act → World → Prop, (∀ a w, K a w → K' a w) → Oper.wp P o a w K' Q) : wpOp P ops Q i K a w := by
  unfold wpOp
  rw [ho]
  simp only [hw, if_true]
  exact .inl (h _ (fun _ _ k => k))
/-! message.op's closures over a row of elements. -/
set_option maxRecDepth 100000 in
theorem clos_any (v : Value) (w : World) (hv : ∃ a n c, v = .slice a n c) :
    Calls Tryz.prog 96 #[v] w fun e w' => (∃ b, e = .returned (.func (.func 97) #[] #[.pointer (some ⟨b, 0, none⟩)]) ∧ w'.cell? ⟨b, 0, none⟩ = some v) ∧ Below w.heap.size w w' := by
  have hmf : ∀ (fn : Fn) (first cap : Array Value) (w : World), (Instr.makeFunc fn first cap).run Tryz.prog w = .ok (.func fn first cap) w := fun _ _ _ _ => rfl
  obtain ⟨a, n, c, rfl⟩ := hv
  have b1 : Below w.heap.size w (w.alloc (.cells #[.slice a n c] 74)) := (Below.refl _ _).alloc (Nat.le_refl _) _
  have c1 : (w.alloc (.cells #[.slice a n c] 74)).cell? ⟨w.heap.size, 0, none⟩ = some (.slice a n c) := (Lib.cell_of_heap (alloc_at w (.cells #[.slice a n c] 74) w.heap.size rfl) 0).trans rfl
  have C1 := Lib.hid c1
  clear c1
  go_enter Tryz.func96, Tryz.ntmps96
  go_wp2_with fail
  go_ret
  exact ⟨⟨_, rfl, C1.out⟩, b1⟩
set_option maxRecDepth 100000 in
theorem clos1_any (b : Nat) (v : Value) (l : List El) (w : World) (hc : w.cell? ⟨b, 0, none⟩ = some v) (h : KidsAt (fun _ => True) w v l) (hs : SmL l) (hl : l.length ≤ 1000000000) :
    Calls Tryz.prog 97 #[.pointer (some ⟨b, 0, none⟩)] w fun e w' => (∃ u, e = .returned (.agg (elA (.mk 0 16 true [] l) u)) ∧ KidsAt (fun g => w.heap.size ≤ g) w' u l) ∧ Below w.heap.size w w' := by
  have b1 : Below w.heap.size w (w.alloc (.cells #[.int .i64 0, .int .i64 0, .bool false, .string ⟨#[]⟩, .slice none 0 0] 76)) := (Below.refl _ _).alloc (Nat.le_refl _) _
  have t1 : (w.alloc (.cells #[.int .i64 0, .int .i64 0, .bool false, .string ⟨#[]⟩, .slice none 0 0] 76)).heap[w.heap.size]? = some (.cells #[.int .i64 0, .int .i64 0, .bool false, .string ⟨#[]⟩, .slice none 0 0] 76 (0, 0)) := alloc_at _ _ _ rfl
  have c1 := (b1.cell (lt_of_cell hc)).trans hc
  have ks := Seq_any l v (w.alloc (.cells #[.int .i64 0, .int .i64 0, .bool false, .string ⟨#[]⟩, .slice none 0 0] 76)) (h.below b1) hs hl
  clear hc h hs hl
  go_enter Tryz.func97, Tryz.ntmps97
  go_wp2_with fail
  generalize w.alloc (.cells #[.int .i64 0, .int .i64 0, .bool false, .string ⟨#[]⟩, .slice none 0 0] 76) = w1 at b1 t1 c1 ks ⊢
  refine Calls.mono (show Calls _ _ _ _ _ from ks) ?_
  rintro e w2 ⟨⟨u, rfl, hu⟩, hb2⟩
  have t2 := (hb2.block _ (Array.getElem?_eq_some_iff.1 t1).1).trans t1
  have b2 := b1.trans (hb2.mono b1.size)
  have hs1 := b1.size
  obtain ⟨E, hE⟩ : ∃ E, elA (.mk 0 16 true [] l) u = E := ⟨_, rfl⟩
  have hE1 : E.all (·.oneCell') = true := by
    obtain ⟨a, c, hsl⟩ := hu.shape
    subst hsl
    rw [← hE]; simp [elA, Value.oneCell']
  have hE2 : E.size = 5 := by rw [← hE]; rfl
  rw [hE]
  have b3 := below_row b2 (g := w.heap.size) (Nat.le_refl _) E
  have t3 := setRow_heap w2 w.heap.size _ E _ _ t2
  have htl := (Array.getElem?_eq_some_iff.1 t1).1
  have u3 : KidsAt (fun g => w.heap.size ≤ g) (w2.setRow w.heap.size E) u l := hu.kept fun g hg hl => ⟨setRow_other w2 w.heap.size g E (by omega), by omega⟩
  have HE := Lib.hid hE
  have HE1 := Lib.hid hE1
  have HE2 := Lib.hid hE2
  have U3 := Lib.hid u3
  clear ks c1 t1 b1 hb2 hu hE hE1 hE2 u3
  go_wp2_with (refine wpList_storeRow rfl 76 (.tmp 1) (.tmp 3) rfl w.heap.size 76 _ E (by rfl) (by rfl) t2 (by rw [HE2.out]; rfl) (by rw [HE2.out]; rfl) HE1.out ?_)
  refine bodyPost_ret (v := .agg E) ?_ rfl ⟨⟨u, by rw [HE.out], U3.out⟩, b3⟩
  have hr := run_loadVar_row (P := Tryz.prog) (w2.setRow w.heap.size E) w.heap.size 76 76 E (0, 0) _ t3 (show Tryz.prog.underlying 76 = _ from Tryz.underlying76) (by rfl) (by rw [HE2.out]; rfl)
  simp [results, Tryz.f97]
  exact hr
set_option maxRecDepth 100000 in
theorem mods_nil2 (w : World) :
    Calls Tryz.prog 103 #[.slice none 0 0] w fun e w' => (∃ u, e = .returned (.agg (elA (.mk 0 16 true [] []) u)) ∧ KidsAt (fun g => w.heap.size ≤ g) w' u []) ∧ Below w.heap.size w w' := by
  have b1 : Below w.heap.size w (w.alloc (.cells #[.int .i64 0, .int .i64 0, .bool false, .string ⟨#[]⟩, .slice none 0 0] 76)) := (Below.refl _ _).alloc (Nat.le_refl _) _
  have t1 : (w.alloc (.cells #[.int .i64 0, .int .i64 0, .bool false, .string ⟨#[]⟩, .slice none 0 0] 76)).heap[w.heap.size]? = some (.cells #[.int .i64 0, .int .i64 0, .bool false, .string ⟨#[]⟩, .slice none 0 0] 76 (0, 0)) := alloc_at _ _ _ rfl
  have ks := Seq_any [] (.slice none 0 0) (w.alloc (.cells #[.int .i64 0, .int .i64 0, .bool false, .string ⟨#[]⟩, .slice none 0 0] 76)) (KidsAt.nil _ _) (by simp only [SmL]) (by simp)
  go_enter Tryz.func103, Tryz.ntmps103
  go_wp2_with fail
  refine wp_loop_rounds 1 ?_
  rw [rounds_succ]
  go_wp2_with fail
  generalize w.alloc (.cells #[.int .i64 0, .int .i64 0, .bool false, .string ⟨#[]⟩, .slice none 0 0] 76) = w1 at b1 t1 ks ⊢
  refine Calls.mono (show Calls _ _ _ _ _ from ks) ?_
  rintro e w2 ⟨⟨u, rfl, hu⟩, hb2⟩
  have t2 := (hb2.block _ (Array.getElem?_eq_some_iff.1 t1).1).trans t1
  have b2 := b1.trans (hb2.mono b1.size)
  have hs1 := b1.size
  obtain ⟨E, hE⟩ : ∃ E, elA (.mk 0 16 true [] []) u = E := ⟨_, rfl⟩
  have hE1 : E.all (·.oneCell') = true := by
    obtain ⟨a, c, hsl⟩ := hu.shape
    subst hsl
    rw [← hE]; simp [elA, Value.oneCell']
  have hE2 : E.size = 5 := by rw [← hE]; rfl
  rw [hE]
  have b3 := below_row b2 (g := w.heap.size) (Nat.le_refl _) E
  have t3 := setRow_heap w2 w.heap.size _ E _ _ t2
  have htl := (Array.getElem?_eq_some_iff.1 t1).1
  have u3 : KidsAt (fun g => w.heap.size ≤ g) (w2.setRow w.heap.size E) u [] := hu.kept fun g hg hl => ⟨setRow_other w2 w.heap.size g E (by omega), by omega⟩
  have HE := Lib.hid hE
  have HE1 := Lib.hid hE1
  have HE2 := Lib.hid hE2
  have U3 := Lib.hid u3
  clear ks t1 b1 hb2 hu hE hE1 hE2 u3
  go_wp2_with (refine wpList_storeRow rfl 76 (.tmp 2) (.tmp 27) rfl w.heap.size 76 _ E (by rfl) (by rfl) t2 (by rw [HE2.out]; rfl) (by rw [HE2.out]; rfl) HE1.out ?_)
  refine bodyPost_ret (v := .agg E) ?_ rfl ⟨⟨u, by rw [HE.out], U3.out⟩, b3⟩
  have hr := run_loadVar_row (P := Tryz.prog) (w2.setRow w.heap.size E) w.heap.size 76 76 E (0, 0) _ t3 (show Tryz.prog.underlying 76 = _ from Tryz.underlying76) (by rfl) (by rw [HE2.out]; rfl)
  simp [results, Tryz.f103]
  exact hr
set_option maxRecDepth 100000 in
theorem attrs_nil2 (w : World) :
    Calls Tryz.prog 104 #[.slice none 0 0] w fun e w' => (∃ u, e = .returned (.agg (elA (.mk 0 16 true [] []) u)) ∧ KidsAt (fun g => w.heap.size ≤ g) w' u []) ∧ Below w.heap.size w w' := by
  have b1 : Below w.heap.size w (w.alloc (.cells #[.int .i64 0, .int .i64 0, .bool false, .string ⟨#[]⟩, .slice none 0 0] 76)) := (Below.refl _ _).alloc (Nat.le_refl _) _
  have t1 : (w.alloc (.cells #[.int .i64 0, .int .i64 0, .bool false, .string ⟨#[]⟩, .slice none 0 0] 76)).heap[w.heap.size]? = some (.cells #[.int .i64 0, .int .i64 0, .bool false, .string ⟨#[]⟩, .slice none 0 0] 76 (0, 0)) := alloc_at _ _ _ rfl
  have ks := Seq_any [] (.slice none 0 0) (w.alloc (.cells #[.int .i64 0, .int .i64 0, .bool false, .string ⟨#[]⟩, .slice none 0 0] 76)) (KidsAt.nil _ _) (by simp only [SmL]) (by simp)
  go_enter Tryz.func104, Tryz.ntmps104
  go_wp2_with fail
  refine wp_loop_rounds 1 ?_
  rw [rounds_succ]
  go_wp2_with fail
  generalize w.alloc (.cells #[.int .i64 0, .int .i64 0, .bool false, .string ⟨#[]⟩, .slice none 0 0] 76) = w1 at b1 t1 ks ⊢
  refine Calls.mono (show Calls _ _ _ _ _ from ks) ?_
  rintro e w2 ⟨⟨u, rfl, hu⟩, hb2⟩
  have t2 := (hb2.block _ (Array.getElem?_eq_some_iff.1 t1).1).trans t1
  have b2 := b1.trans (hb2.mono b1.size)
  have hs1 := b1.size
  obtain ⟨E, hE⟩ : ∃ E, elA (.mk 0 16 true [] []) u = E := ⟨_, rfl⟩
  have hE1 : E.all (·.oneCell') = true := by
    obtain ⟨a, c, hsl⟩ := hu.shape
    subst hsl
    rw [← hE]; simp [elA, Value.oneCell']
  have hE2 : E.size = 5 := by rw [← hE]; rfl
  rw [hE]
  have b3 := below_row b2 (g := w.heap.size) (Nat.le_refl _) E
  have t3 := setRow_heap w2 w.heap.size _ E _ _ t2
  have htl := (Array.getElem?_eq_some_iff.1 t1).1
  have u3 : KidsAt (fun g => w.heap.size ≤ g) (w2.setRow w.heap.size E) u [] := hu.kept fun g hg hl => ⟨setRow_other w2 w.heap.size g E (by omega), by omega⟩
  have HE := Lib.hid hE
  have HE1 := Lib.hid hE1
  have HE2 := Lib.hid hE2
  have U3 := Lib.hid u3
  clear ks t1 b1 hb2 hu hE hE1 hE2 u3
  go_wp2_with (refine wpList_storeRow rfl 76 (.tmp 2) (.tmp 22) rfl w.heap.size 76 _ E (by rfl) (by rfl) t2 (by rw [HE2.out]; rfl) (by rw [HE2.out]; rfl) HE1.out ?_)
  refine bodyPost_ret (v := .agg E) ?_ rfl ⟨⟨u, by rw [HE.out], U3.out⟩, b3⟩
  have hr := run_loadVar_row (P := Tryz.prog) (w2.setRow w.heap.size E) w.heap.size 76 76 E (0, 0) _ t3 (show Tryz.prog.underlying 76 = _ from Tryz.underlying76) (by rfl) (by rw [HE2.out]; rfl)
  simp [results, Tryz.f104]
  exact hr
end Go.Proofs.YtaojidcneocelaaGreatDoor
