/- OpB. -/
import Derived.Test.YthjaiigijbjloaaGreatDoorQ41
namespace Go.Proofs.YthjaiigijbjloaaGreatDoor
open Go.RowKit Go.Lib
theorem op_bind_s (m : Mg) (l : Ls) (w : World) (hm : MgM w m l) (hk : LsOk m l) (hv : validB m l = true) (hop : m.op = 0) (hs : m.sasl = true) : Calls Tryz.prog 73 #[.agg m.row] w fun e w' => (∃ u, e = .returned (.agg (elA (opE m l) u)) ∧ KidsAt (fun g => w.heap.size ≤ g) w' u (opE m l).kids) ∧ Below w.heap.size w w' := by
 obtain ⟨hkb, ⟨hi0, hi1⟩, hmo⟩ := valid_parts hv
 simp only [kindB, hop, if_true, Bool.and_eq_true, decide_eq_true_eq] at hkb
 obtain ⟨hv1, hv2⟩ := hkb
 have hvn : m.row[3]? = some (.int .i64 (m.ver.toNat : Int)) := by rw [show ((m.ver.toNat : Nat) : Int) = m.ver by omega]; rfl
 have hsg := sgB_small (n := m.ver.toNat) (by omega)
 have hrow1 : m.row[1]? = some (.int .i64 0) := by rw [← hop]; rfl
 have hE : opE m l = .mk 1 0 (El.cons (.mk 0 16 true [] [.mk 0 2 false [UInt8.ofNat m.ver.toNat] [], .mk 0 4 false m.dn [], .mk 2 3 true [] [.mk 0 4 false m.secret []]])) (El.bytes (.mk 0 16 true [] [.mk 0 2 false [UInt8.ofNat m.ver.toNat] [], .mk 0 4 false m.dn [], .mk 2 3 true [] [.mk 0 4 false m.secret []]])) (El.kids (.mk 0 16 true [] [.mk 0 2 false [UInt8.ofNat m.ver.toNat] [], .mk 0 4 false m.dn [], .mk 2 3 true [] [.mk 0 4 false m.secret []]])) := by simp [opE, hop, El.cons, El.bytes, El.kids, secretE, hs, hsg]
 rw [hE]
 have hr : l.mods.all (fun x => rngB x.1 2) = true := by rw [hmo (by rw [hop]; decide)]; rfl
 refine op_known (opx w m l) m.row w 2 0 (by decide) (.mk 0 16 true [] [.mk 0 2 false [UInt8.ofNat m.ver.toNat] [], .mk 0 4 false m.dn [], .mk 2 3 true [] [.mk 0 4 false m.secret []]]) (by have h1 := hk.dn; have h2 := hk.secret; simp [SmE, SmL]; omega) rfl hrow1 rfl rfl rfl rfl rfl (by have := hk.typ; show m.typ.length ≤ _; omega) (by have := hk.value; show m.value.length ≤ _; omega) (mods_seqM hm hk hr) (attrs_seqM hm hk) ?_
 intro V w' hV hb hM
 have hV : V = .func (.func 116) #[] #[.pointer (some ⟨w.heap.size, 0, none⟩)] := hV
 subst hV
 refine ⟨_, _, rfl, callee2, ?_⟩
 refine (bindop_sasl w.heap.size m.ver.toNat m.row m.dn m.secret w' hM (by omega) rfl hvn (by rw [← hs]; rfl) rfl (by have := hk.dn; omega) (by have := hk.secret; omega)).mono ?_
 rintro e w'' ⟨⟨u, rfl, hu⟩, hb'⟩
 exact ⟨⟨u, rfl, hu.mono fun _ _ _ => trivial⟩, hb'⟩
theorem op_bind_p (m : Mg) (l : Ls) (w : World) (hm : MgM w m l) (hk : LsOk m l) (hv : validB m l = true) (hop : m.op = 0) (hs : m.sasl = false) : Calls Tryz.prog 73 #[.agg m.row] w fun e w' => (∃ u, e = .returned (.agg (elA (opE m l) u)) ∧ KidsAt (fun g => w.heap.size ≤ g) w' u (opE m l).kids) ∧ Below w.heap.size w w' := by
 obtain ⟨hkb, ⟨hi0, hi1⟩, hmo⟩ := valid_parts hv
 simp only [kindB, hop, if_true, Bool.and_eq_true, decide_eq_true_eq] at hkb
 obtain ⟨hv1, hv2⟩ := hkb
 have hvn : m.row[3]? = some (.int .i64 (m.ver.toNat : Int)) := by rw [show ((m.ver.toNat : Nat) : Int) = m.ver by omega]; rfl
 have hsg := sgB_small (n := m.ver.toNat) (by omega)
 have hrow1 : m.row[1]? = some (.int .i64 0) := by rw [← hop]; rfl
 have hE : opE m l = .mk 1 0 (El.cons (.mk 0 16 true [] [.mk 0 2 false [UInt8.ofNat m.ver.toNat] [], .mk 0 4 false m.dn [], .mk 2 0 false m.secret []])) (El.bytes (.mk 0 16 true [] [.mk 0 2 false [UInt8.ofNat m.ver.toNat] [], .mk 0 4 false m.dn [], .mk 2 0 false m.secret []])) (El.kids (.mk 0 16 true [] [.mk 0 2 false [UInt8.ofNat m.ver.toNat] [], .mk 0 4 false m.dn [], .mk 2 0 false m.secret []])) := by simp [opE, hop, El.cons, El.bytes, El.kids, secretE, hs, hsg]
 rw [hE]
 have hr : l.mods.all (fun x => rngB x.1 2) = true := by rw [hmo (by rw [hop]; decide)]; rfl
 refine op_known (opx w m l) m.row w 2 0 (by decide) (.mk 0 16 true [] [.mk 0 2 false [UInt8.ofNat m.ver.toNat] [], .mk 0 4 false m.dn [], .mk 2 0 false m.secret []]) (by have h1 := hk.dn; have h2 := hk.secret; simp [SmE, SmL]; omega) rfl hrow1 rfl rfl rfl rfl rfl (by have := hk.typ; show m.typ.length ≤ _; omega) (by have := hk.value; show m.value.length ≤ _; omega) (mods_seqM hm hk hr) (attrs_seqM hm hk) ?_
 intro V w' hV hb hM
 have hV : V = .func (.func 116) #[] #[.pointer (some ⟨w.heap.size, 0, none⟩)] := hV
 subst hV
 refine ⟨_, _, rfl, callee2, ?_⟩
 refine (bindop_any w.heap.size m.ver.toNat m.row m.dn m.secret w' hM (by omega) rfl hvn (by rw [← hs]; rfl) rfl (by have := hk.dn; omega) (by have := hk.secret; omega)).mono ?_
 rintro e w'' ⟨⟨u, rfl, hu⟩, hb'⟩
 exact ⟨⟨u, rfl, hu.mono fun _ _ _ => trivial⟩, hb'⟩
theorem op_unbind_g (m : Mg) (l : Ls) (w : World) (hm : MgM w m l) (hk : LsOk m l) (hv : validB m l = true) (hop : m.op = 2) : Calls Tryz.prog 73 #[.agg m.row] w fun e w' => (∃ u, e = .returned (.agg (elA (opE m l) u)) ∧ KidsAt (fun g => w.heap.size ≤ g) w' u (opE m l).kids) ∧ Below w.heap.size w w' := by
 obtain ⟨hkb, ⟨hi0, hi1⟩, hmo⟩ := valid_parts hv
 have hrow1 : m.row[1]? = some (.int .i64 2) := by rw [← hop]; rfl
 have hE : opE m l = .mk 1 2 (El.cons (.mk 0 4 false [] [])) (El.bytes (.mk 0 4 false [] [])) (El.kids (.mk 0 4 false [] [])) := by simp [opE, hop, El.cons, El.bytes, El.kids]
 rw [hE]
 have hr : l.mods.all (fun x => rngB x.1 2) = true := by rw [hmo (by rw [hop]; decide)]; rfl
 refine op_known (opx w m l) m.row w 3 2 (by decide) (.mk 0 4 false [] []) (by simp [SmE, SmL]) rfl hrow1 rfl rfl rfl rfl rfl (by have := hk.typ; show m.typ.length ≤ _; omega) (by have := hk.value; show m.value.length ≤ _; omega) (mods_seqM hm hk hr) (attrs_seqM hm hk) ?_
 intro V w' hV hb hM
 have hV : V = .func (.func 117) #[] #[] := hV
 subst hV
 refine ⟨_, _, rfl, callee3, ?_⟩
 refine (unbindop_any w').mono ?_
 rintro e w'' ⟨⟨u, rfl, hu⟩, hb'⟩
 exact ⟨⟨u, rfl, hu.mono fun _ _ _ => trivial⟩, hb'⟩
theorem op_delete_g (m : Mg) (l : Ls) (w : World) (hm : MgM w m l) (hk : LsOk m l) (hv : validB m l = true) (hop : m.op = 10) : Calls Tryz.prog 73 #[.agg m.row] w fun e w' => (∃ u, e = .returned (.agg (elA (opE m l) u)) ∧ KidsAt (fun g => w.heap.size ≤ g) w' u (opE m l).kids) ∧ Below w.heap.size w w' := by
 obtain ⟨hkb, ⟨hi0, hi1⟩, hmo⟩ := valid_parts hv
 have hrow1 : m.row[1]? = some (.int .i64 10) := by rw [← hop]; rfl
 have hE : opE m l = .mk 1 10 (El.cons (.mk 0 4 false m.dn [])) (El.bytes (.mk 0 4 false m.dn [])) (El.kids (.mk 0 4 false m.dn [])) := by simp [opE, hop, El.cons, El.bytes, El.kids]
 rw [hE]
 have hr : l.mods.all (fun x => rngB x.1 2) = true := by rw [hmo (by rw [hop]; decide)]; rfl
 refine op_known (opx w m l) m.row w 37 10 (by decide) (.mk 0 4 false m.dn []) (by have := hk.dn; simp [SmE, SmL]; omega) rfl hrow1 rfl rfl rfl rfl rfl (by have := hk.typ; show m.typ.length ≤ _; omega) (by have := hk.value; show m.value.length ≤ _; omega) (mods_seqM hm hk hr) (attrs_seqM hm hk) ?_
 intro V w' hV hb hM
 have hV : V = .func (.func 123) #[] #[.pointer (some ⟨w.heap.size, 0, none⟩)] := hV
 subst hV
 refine ⟨_, _, rfl, callee5, ?_⟩
 refine (delop_any w.heap.size _ m.dn w' hM rfl).mono ?_
 rintro e w'' ⟨rfl, hb'⟩
 exact ⟨⟨_, rfl, KidsAt.nil _ _⟩, hb'⟩
theorem op_abandon_g (m : Mg) (l : Ls) (w : World) (hm : MgM w m l) (hk : LsOk m l) (hv : validB m l = true) (hop : m.op = 16) : Calls Tryz.prog 73 #[.agg m.row] w fun e w' => (∃ u, e = .returned (.agg (elA (opE m l) u)) ∧ KidsAt (fun g => w.heap.size ≤ g) w' u (opE m l).kids) ∧ Below w.heap.size w w' := by
 obtain ⟨hkb, ⟨hi0, hi1⟩, hmo⟩ := valid_parts hv
 simp only [kindB, hop] at hkb
 have h1 := hkb
 simp [rngB] at h1
 have hvn : m.row[23]? = some (.int .i64 (m.target.toNat : Int)) := by rw [show ((m.target.toNat : Nat) : Int) = m.target by omega]; rfl
 have hrow1 : m.row[1]? = some (.int .i64 16) := by rw [← hop]; rfl
 have hE : opE m l = .mk 1 16 (El.cons (.mk 0 2 false (sgB m.target.toNat) [])) (El.bytes (.mk 0 2 false (sgB m.target.toNat) [])) (El.kids (.mk 0 2 false (sgB m.target.toNat) [])) := by simp [opE, hop, El.cons, El.bytes, El.kids]
 rw [hE]
 have hr : l.mods.all (fun x => rngB x.1 2) = true := by rw [hmo (by rw [hop]; decide)]; rfl
 refine op_known (opx w m l) m.row w 56 16 (by decide) (.mk 0 2 false (sgB m.target.toNat) []) (by have := (sgB_len m.target.toNat).2; simp [SmE, SmL]; omega) rfl hrow1 rfl rfl rfl rfl rfl (by have := hk.typ; show m.typ.length ≤ _; omega) (by have := hk.value; show m.value.length ≤ _; omega) (mods_seqM hm hk hr) (attrs_seqM hm hk) ?_
 intro V w' hV hb hM
 have hV : V = .func (.func 125) #[] #[.pointer (some ⟨w.heap.size, 0, none⟩)] := hV
 subst hV
 refine ⟨_, _, rfl, callee7, ?_⟩
 refine (abandonop_any w.heap.size m.target.toNat m.row w' hM hvn (by omega)).mono ?_
 rintro e w'' ⟨⟨u, rfl, hu⟩, hb'⟩
 exact ⟨⟨u, rfl, hu.mono fun _ _ _ => trivial⟩, hb'⟩
theorem op_move_s (m : Mg) (l : Ls) (w : World) (hm : MgM w m l) (hk : LsOk m l) (hv : validB m l = true) (hop : m.op = 12) (hs : m.hasSup = true) : Calls Tryz.prog 73 #[.agg m.row] w fun e w' => (∃ u, e = .returned (.agg (elA (opE m l) u)) ∧ KidsAt (fun g => w.heap.size ≤ g) w' u (opE m l).kids) ∧ Below w.heap.size w w' := by
 obtain ⟨hkb, ⟨hi0, hi1⟩, hmo⟩ := valid_parts hv
 have hrow1 : m.row[1]? = some (.int .i64 12) := by rw [← hop]; rfl
 have hE : opE m l = .mk 1 12 (El.cons (.mk 0 16 true [] [.mk 0 4 false m.dn [], .mk 0 4 false m.newRdn [], .mk 0 1 false (blB m.delOld) [], .mk 2 0 false m.newSup []])) (El.bytes (.mk 0 16 true [] [.mk 0 4 false m.dn [], .mk 0 4 false m.newRdn [], .mk 0 1 false (blB m.delOld) [], .mk 2 0 false m.newSup []])) (El.kids (.mk 0 16 true [] [.mk 0 4 false m.dn [], .mk 0 4 false m.newRdn [], .mk 0 1 false (blB m.delOld) [], .mk 2 0 false m.newSup []])) := by simp [opE, hop, El.cons, El.bytes, El.kids, hs]
 rw [hE]
 have hr : l.mods.all (fun x => rngB x.1 2) = true := by rw [hmo (by rw [hop]; decide)]; rfl
 refine op_known (opx w m l) m.row w 39 12 (by decide) (.mk 0 16 true [] [.mk 0 4 false m.dn [], .mk 0 4 false m.newRdn [], .mk 0 1 false (blB m.delOld) [], .mk 2 0 false m.newSup []]) (by have h1 := hk.dn; have h2 := hk.newRdn; have h3 := hk.newSup; have h4 : (blB m.delOld).length = 1 := (by cases m.delOld <;> rfl); simp [SmE, SmL]; omega) rfl hrow1 rfl rfl rfl rfl rfl (by have := hk.typ; show m.typ.length ≤ _; omega) (by have := hk.value; show m.value.length ≤ _; omega) (mods_seqM hm hk hr) (attrs_seqM hm hk) ?_
 intro V w' hV hb hM
 have hV : V = .func (.func 124) #[] #[.pointer (some ⟨w.heap.size, 0, none⟩)] := hV
 subst hV
 refine ⟨_, _, rfl, callee6, ?_⟩
 refine (moveop_some w.heap.size m.row m.dn m.newRdn m.newSup m.delOld w' hM rfl rfl rfl (by rw [← hs]; rfl) rfl (by have := hk.dn; omega) (by have := hk.newRdn; omega) (by have := hk.newSup; omega)).mono ?_
 rintro e w'' ⟨⟨u, rfl, hu⟩, hb'⟩
 exact ⟨⟨u, rfl, hu.mono fun _ _ _ => trivial⟩, hb'⟩
theorem op_move_n (m : Mg) (l : Ls) (w : World) (hm : MgM w m l) (hk : LsOk m l) (hv : validB m l = true) (hop : m.op = 12) (hs : m.hasSup = false) : Calls Tryz.prog 73 #[.agg m.row] w fun e w' => (∃ u, e = .returned (.agg (elA (opE m l) u)) ∧ KidsAt (fun g => w.heap.size ≤ g) w' u (opE m l).kids) ∧ Below w.heap.size w w' := by
 obtain ⟨hkb, ⟨hi0, hi1⟩, hmo⟩ := valid_parts hv
 have hrow1 : m.row[1]? = some (.int .i64 12) := by rw [← hop]; rfl
 have hE : opE m l = .mk 1 12 (El.cons (.mk 0 16 true [] [.mk 0 4 false m.dn [], .mk 0 4 false m.newRdn [], .mk 0 1 false (blB m.delOld) []])) (El.bytes (.mk 0 16 true [] [.mk 0 4 false m.dn [], .mk 0 4 false m.newRdn [], .mk 0 1 false (blB m.delOld) []])) (El.kids (.mk 0 16 true [] [.mk 0 4 false m.dn [], .mk 0 4 false m.newRdn [], .mk 0 1 false (blB m.delOld) []])) := by simp [opE, hop, El.cons, El.bytes, El.kids, hs]
 rw [hE]
 have hr : l.mods.all (fun x => rngB x.1 2) = true := by rw [hmo (by rw [hop]; decide)]; rfl
 refine op_known (opx w m l) m.row w 39 12 (by decide) (.mk 0 16 true [] [.mk 0 4 false m.dn [], .mk 0 4 false m.newRdn [], .mk 0 1 false (blB m.delOld) []]) (by have h1 := hk.dn; have h2 := hk.newRdn; have h3 := hk.newSup; have h4 : (blB m.delOld).length = 1 := (by cases m.delOld <;> rfl); simp [SmE, SmL]; omega) rfl hrow1 rfl rfl rfl rfl rfl (by have := hk.typ; show m.typ.length ≤ _; omega) (by have := hk.value; show m.value.length ≤ _; omega) (mods_seqM hm hk hr) (attrs_seqM hm hk) ?_
 intro V w' hV hb hM
 have hV : V = .func (.func 124) #[] #[.pointer (some ⟨w.heap.size, 0, none⟩)] := hV
 subst hV
 refine ⟨_, _, rfl, callee6, ?_⟩
 refine (moveop_none w.heap.size m.row m.dn m.newRdn m.delOld w' hM rfl rfl rfl (by rw [← hs]; rfl) (by have := hk.dn; omega) (by have := hk.newRdn; omega)).mono ?_
 rintro e w'' ⟨⟨u, rfl, hu⟩, hb'⟩
 exact ⟨⟨u, rfl, hu.mono fun _ _ _ => trivial⟩, hb'⟩
theorem op_extend_s (m : Mg) (l : Ls) (w : World) (hm : MgM w m l) (hk : LsOk m l) (hv : validB m l = true) (hop : m.op = 23) (hs : m.has = true) : Calls Tryz.prog 73 #[.agg m.row] w fun e w' => (∃ u, e = .returned (.agg (elA (opE m l) u)) ∧ KidsAt (fun g => w.heap.size ≤ g) w' u (opE m l).kids) ∧ Below w.heap.size w w' := by
 obtain ⟨hkb, ⟨hi0, hi1⟩, hmo⟩ := valid_parts hv
 have hrow1 : m.row[1]? = some (.int .i64 23) := by rw [← hop]; rfl
 have hE : opE m l = .mk 1 23 (El.cons (.mk 0 16 true [] [.mk 2 0 false m.oid [], .mk 2 1 false m.value []])) (El.bytes (.mk 0 16 true [] [.mk 2 0 false m.oid [], .mk 2 1 false m.value []])) (El.kids (.mk 0 16 true [] [.mk 2 0 false m.oid [], .mk 2 1 false m.value []])) := by simp [opE, hop, El.cons, El.bytes, El.kids, hs]
 rw [hE]
 have hr : l.mods.all (fun x => rngB x.1 2) = true := by rw [hmo (by rw [hop]; decide)]; rfl
 refine op_known (opx w m l) m.row w 58 23 (by decide) (.mk 0 16 true [] [.mk 2 0 false m.oid [], .mk 2 1 false m.value []]) (by have h1 := hk.oid; have h2 := hk.value; simp [SmE, SmL]; omega) rfl hrow1 rfl rfl rfl rfl rfl (by have := hk.typ; show m.typ.length ≤ _; omega) (by have := hk.value; show m.value.length ≤ _; omega) (mods_seqM hm hk hr) (attrs_seqM hm hk) ?_
 intro V w' hV hb hM
 have hV : V = .func (.func 126) #[] #[.pointer (some ⟨w.heap.size, 0, none⟩)] := hV
 subst hV
 refine ⟨_, _, rfl, callee8, ?_⟩
 refine (extop_some w.heap.size m.row m.oid m.value w' hM rfl (by rw [← hs]; rfl) rfl (by have := hk.oid; omega) (by have := hk.value; omega)).mono ?_
 rintro e w'' ⟨⟨u, rfl, hu⟩, hb'⟩
 exact ⟨⟨u, rfl, hu.mono fun _ _ _ => trivial⟩, hb'⟩
theorem op_extend_n (m : Mg) (l : Ls) (w : World) (hm : MgM w m l) (hk : LsOk m l) (hv : validB m l = true) (hop : m.op = 23) (hs : m.has = false) : Calls Tryz.prog 73 #[.agg m.row] w fun e w' => (∃ u, e = .returned (.agg (elA (opE m l) u)) ∧ KidsAt (fun g => w.heap.size ≤ g) w' u (opE m l).kids) ∧ Below w.heap.size w w' := by
 obtain ⟨hkb, ⟨hi0, hi1⟩, hmo⟩ := valid_parts hv
 have hrow1 : m.row[1]? = some (.int .i64 23) := by rw [← hop]; rfl
 have hE : opE m l = .mk 1 23 (El.cons (.mk 0 16 true [] [.mk 2 0 false m.oid []])) (El.bytes (.mk 0 16 true [] [.mk 2 0 false m.oid []])) (El.kids (.mk 0 16 true [] [.mk 2 0 false m.oid []])) := by simp [opE, hop, El.cons, El.bytes, El.kids, hs]
 rw [hE]
 have hr : l.mods.all (fun x => rngB x.1 2) = true := by rw [hmo (by rw [hop]; decide)]; rfl
 refine op_known (opx w m l) m.row w 58 23 (by decide) (.mk 0 16 true [] [.mk 2 0 false m.oid []]) (by have h1 := hk.oid; have h2 := hk.value; simp [SmE, SmL]; omega) rfl hrow1 rfl rfl rfl rfl rfl (by have := hk.typ; show m.typ.length ≤ _; omega) (by have := hk.value; show m.value.length ≤ _; omega) (mods_seqM hm hk hr) (attrs_seqM hm hk) ?_
 intro V w' hV hb hM
 have hV : V = .func (.func 126) #[] #[.pointer (some ⟨w.heap.size, 0, none⟩)] := hV
 subst hV
 refine ⟨_, _, rfl, callee8, ?_⟩
 refine (extop_none w.heap.size m.row m.oid w' hM rfl (by rw [← hs]; rfl) (by have := hk.oid; omega)).mono ?_
 rintro e w'' ⟨⟨u, rfl, hu⟩, hb'⟩
 exact ⟨⟨u, rfl, hu.mono fun _ _ _ => trivial⟩, hb'⟩
theorem op_search_g (m : Mg) (l : Ls) (w : World) (hm : MgM w m l) (hk : LsOk m l) (hv : validB m l = true) (hop : m.op = 3) : Calls Tryz.prog 73 #[.agg m.row] w fun e w' => (∃ u, e = .returned (.agg (elA (opE m l) u)) ∧ KidsAt (fun g => w.heap.size ≤ g) w' u (opE m l).kids) ∧ Below w.heap.size w w' := by
 obtain ⟨hkb, ⟨hi0, hi1⟩, hmo⟩ := valid_parts hv
 have hkb2 : (rngB m.scope 2 && rngB m.deref 3 && rngB m.size 2147483647 && rngB m.time 2147483647 && filtB l.filt) = true := by simpa [kindB, hop] using hkb
 simp only [Bool.and_eq_true, rngB, decide_eq_true_eq, filtB] at hkb2
 obtain ⟨⟨⟨⟨h1, h2⟩, h3⟩, h4⟩, h5, h6⟩ := hkb2
 have hw : wholeB 20 l.filt = some [] := by
  split at h6
  ·assumption
  ·cases h6
 have hc : ∀ n : Int, 0 ≤ n → ((n.toNat : Nat) : Int) = n := fun n h => by omega
 have hsm : SmE (.mk 0 16 true [] (searchK m.dn m.scope.toNat m.deref.toNat m.size.toNat m.time.toNat m.types (fltE 20 l.filt).1 l.sel)) := by
  simp only [SmE]
  exact ⟨by simp, by simp [searchK], sm_search _ _ _ _ _ _ _ _ (by have := hk.dn; omega) (sm_flt 20 l.filt [] (fun p hp => (hk.filt.2 p hp).1) h5 hw) hk.sels (by have := hk.sel; omega)⟩
 have hrow1 : m.row[1]? = some (.int .i64 3) := by rw [← hop]; rfl
 have hE : opE m l = .mk 1 3 (El.cons (.mk 0 16 true [] (searchK m.dn m.scope.toNat m.deref.toNat m.size.toNat m.time.toNat m.types (fltE 20 l.filt).1 l.sel))) (El.bytes (.mk 0 16 true [] (searchK m.dn m.scope.toNat m.deref.toNat m.size.toNat m.time.toNat m.types (fltE 20 l.filt).1 l.sel))) (El.kids (.mk 0 16 true [] (searchK m.dn m.scope.toNat m.deref.toNat m.size.toNat m.time.toNat m.types (fltE 20 l.filt).1 l.sel))) := by simp [opE, hop, El.cons, El.bytes, El.kids]
 rw [hE]
 have hr : l.mods.all (fun x => rngB x.1 2) = true := by rw [hmo (by rw [hop]; decide)]; rfl
 refine op_known (opx w m l) m.row w 5 3 (by decide) (.mk 0 16 true [] (searchK m.dn m.scope.toNat m.deref.toNat m.size.toNat m.time.toNat m.types (fltE 20 l.filt).1 l.sel)) (hsm) rfl hrow1 rfl rfl rfl rfl rfl (by have := hk.typ; show m.typ.length ≤ _; omega) (by have := hk.value; show m.value.length ≤ _; omega) (mods_seqM hm hk hr) (attrs_seqM hm hk) ?_
 intro V w' hV hb hM
 have hV : V = .func (.func 118) #[] #[.pointer (some ⟨w.heap.size, 0, none⟩)] := hV
 subst hV
 refine ⟨_, _, rfl, callee4, ?_⟩
 refine (searchop_any w.heap.size m.row m.dn m.scope.toNat m.deref.toNat m.size.toNat m.time.toNat m.types m.filt m.sel l.filt l.sel w' hM rfl (by rw [hc _ h1.1]; rfl) (by rw [hc _ h2.1]; rfl) (by rw [hc _ h3.1]; rfl) (by rw [hc _ h4.1]; rfl) rfl rfl rfl (by have := hk.dn; omega) (by omega) (by omega) (by omega) (by omega) (hm.filt.below hb) hk.filt h5 hw (hm.sel.below hb) hk.sel hk.sels).mono ?_
 rintro e w'' ⟨⟨u, rfl, hu⟩, hb'⟩
 exact ⟨⟨u, rfl, hu.mono fun _ _ _ => trivial⟩, hb'⟩
theorem op_modify_g (m : Mg) (l : Ls) (w : World) (hm : MgM w m l) (hk : LsOk m l) (hv : validB m l = true) (hop : m.op = 6) : Calls Tryz.prog 73 #[.agg m.row] w fun e w' => (∃ u, e = .returned (.agg (elA (opE m l) u)) ∧ KidsAt (fun g => w.heap.size ≤ g) w' u (opE m l).kids) ∧ Below w.heap.size w w' := by
 obtain ⟨hkb, ⟨hi0, hi1⟩, hmo⟩ := valid_parts hv
 have hrow1 : m.row[1]? = some (.int .i64 6) := by rw [← hop]; rfl
 have hE : opE m l = .mk 1 6 (El.cons (.mk 0 16 true [] [.mk 0 4 false m.dn [], .mk 0 16 true [] ((natM l.mods).map modE)])) (El.bytes (.mk 0 16 true [] [.mk 0 4 false m.dn [], .mk 0 16 true [] ((natM l.mods).map modE)])) (El.kids (.mk 0 16 true [] [.mk 0 4 false m.dn [], .mk 0 16 true [] ((natM l.mods).map modE)])) := by simp [opE, hop, El.cons, El.bytes, El.kids]
 rw [hE]
 have hr : l.mods.all (fun x => rngB x.1 2) = true := by simpa [kindB, hop] using hkb
 have hsm : SmE (.mk 0 16 true [] [.mk 0 4 false m.dn [], .mk 0 16 true [] ((natM l.mods).map modE)]) := by
  have h1 := hk.dn
  have h2 := sm_modsE hk hr
  simp only [SmE, SmL] at h2 ⊢
  simp at h2 ⊢
  exact ⟨by omega, h2⟩
 refine op_known (opx w m l) m.row w 15 6 (by decide) (.mk 0 16 true [] [.mk 0 4 false m.dn [], .mk 0 16 true [] ((natM l.mods).map modE)]) (hsm) rfl hrow1 rfl rfl rfl rfl rfl (by have := hk.typ; show m.typ.length ≤ _; omega) (by have := hk.value; show m.value.length ≤ _; omega) (mods_seqM hm hk hr) (attrs_seqM hm hk) ?_
 intro V w' hV hb hM
 obtain ⟨bc, u, rfl, hc, hu⟩ : Clos [.mk 0 4 false m.dn [], .mk 0 16 true [] ((natM l.mods).map modE)] V w' := hV
 refine ⟨_, _, rfl, callee11, ?_⟩
 refine (clos1_any bc u [.mk 0 4 false m.dn [], .mk 0 16 true [] ((natM l.mods).map modE)] w' hc hu (by have h := hsm; simp only [SmE] at h; exact h.2.2) (by simp)).mono ?_
 rintro e w'' ⟨⟨u, rfl, hu⟩, hb'⟩
 exact ⟨⟨u, rfl, hu.mono fun _ _ _ => trivial⟩, hb'⟩
theorem op_add_g (m : Mg) (l : Ls) (w : World) (hm : MgM w m l) (hk : LsOk m l) (hv : validB m l = true) (hop : m.op = 8) : Calls Tryz.prog 73 #[.agg m.row] w fun e w' => (∃ u, e = .returned (.agg (elA (opE m l) u)) ∧ KidsAt (fun g => w.heap.size ≤ g) w' u (opE m l).kids) ∧ Below w.heap.size w w' := by
 obtain ⟨hkb, ⟨hi0, hi1⟩, hmo⟩ := valid_parts hv
 have hrow1 : m.row[1]? = some (.int .i64 8) := by rw [← hop]; rfl
 have hE : opE m l = .mk 1 8 (El.cons (.mk 0 16 true [] [.mk 0 4 false m.dn [], .mk 0 16 true [] (l.attrs.map attrE)])) (El.bytes (.mk 0 16 true [] [.mk 0 4 false m.dn [], .mk 0 16 true [] (l.attrs.map attrE)])) (El.kids (.mk 0 16 true [] [.mk 0 4 false m.dn [], .mk 0 16 true [] (l.attrs.map attrE)])) := by simp [opE, hop, El.cons, El.bytes, El.kids]
 rw [hE]
 have hr : l.mods.all (fun x => rngB x.1 2) = true := by rw [hmo (by rw [hop]; decide)]; rfl
 have hsm : SmE (.mk 0 16 true [] [.mk 0 4 false m.dn [], .mk 0 16 true [] (l.attrs.map attrE)]) := by
  have h1 := hk.dn
  have h2 := sm_attrsE hk
  simp only [SmE, SmL] at h2 ⊢
  simp at h2 ⊢
  exact ⟨by omega, h2⟩
 refine op_known (opx w m l) m.row w 25 8 (by decide) (.mk 0 16 true [] [.mk 0 4 false m.dn [], .mk 0 16 true [] (l.attrs.map attrE)]) (hsm) rfl hrow1 rfl rfl rfl rfl rfl (by have := hk.typ; show m.typ.length ≤ _; omega) (by have := hk.value; show m.value.length ≤ _; omega) (mods_seqM hm hk hr) (attrs_seqM hm hk) ?_
 intro V w' hV hb hM
 obtain ⟨bc, u, rfl, hc, hu⟩ : Clos [.mk 0 4 false m.dn [], .mk 0 16 true [] (l.attrs.map attrE)] V w' := hV
 refine ⟨_, _, rfl, callee11, ?_⟩
 refine (clos1_any bc u [.mk 0 4 false m.dn [], .mk 0 16 true [] (l.attrs.map attrE)] w' hc hu (by have h := hsm; simp only [SmE] at h; exact h.2.2) (by simp)).mono ?_
 rintro e w'' ⟨⟨u, rfl, hu⟩, hb'⟩
 exact ⟨⟨u, rfl, hu.mono fun _ _ _ => trivial⟩, hb'⟩
theorem op_entry_g (m : Mg) (l : Ls) (w : World) (hm : MgM w m l) (hk : LsOk m l) (hv : validB m l = true) (hop : m.op = 4) : Calls Tryz.prog 73 #[.agg m.row] w fun e w' => (∃ u, e = .returned (.agg (elA (opE m l) u)) ∧ KidsAt (fun g => w.heap.size ≤ g) w' u (opE m l).kids) ∧ Below w.heap.size w w' := by
 obtain ⟨hkb, ⟨hi0, hi1⟩, hmo⟩ := valid_parts hv
 have hrow1 : m.row[1]? = some (.int .i64 4) := by rw [← hop]; rfl
 have hE : opE m l = .mk 1 4 (El.cons (.mk 0 16 true [] [.mk 0 4 false m.dn [], .mk 0 16 true [] (l.attrs.map attrE)])) (El.bytes (.mk 0 16 true [] [.mk 0 4 false m.dn [], .mk 0 16 true [] (l.attrs.map attrE)])) (El.kids (.mk 0 16 true [] [.mk 0 4 false m.dn [], .mk 0 16 true [] (l.attrs.map attrE)])) := by simp [opE, hop, El.cons, El.bytes, El.kids]
 rw [hE]
 have hr : l.mods.all (fun x => rngB x.1 2) = true := by rw [hmo (by rw [hop]; decide)]; rfl
 have hsm : SmE (.mk 0 16 true [] [.mk 0 4 false m.dn [], .mk 0 16 true [] (l.attrs.map attrE)]) := by
  have h1 := hk.dn
  have h2 := sm_attrsE hk
  simp only [SmE, SmL] at h2 ⊢
  simp at h2 ⊢
  exact ⟨by omega, h2⟩
 refine op_known (opx w m l) m.row w 35 4 (by decide) (.mk 0 16 true [] [.mk 0 4 false m.dn [], .mk 0 16 true [] (l.attrs.map attrE)]) (hsm) rfl hrow1 rfl rfl rfl rfl rfl (by have := hk.typ; show m.typ.length ≤ _; omega) (by have := hk.value; show m.value.length ≤ _; omega) (mods_seqM hm hk hr) (attrs_seqM hm hk) ?_
 intro V w' hV hb hM
 obtain ⟨bc, u, rfl, hc, hu⟩ : Clos [.mk 0 4 false m.dn [], .mk 0 16 true [] (l.attrs.map attrE)] V w' := hV
 refine ⟨_, _, rfl, callee11, ?_⟩
 refine (clos1_any bc u [.mk 0 4 false m.dn [], .mk 0 16 true [] (l.attrs.map attrE)] w' hc hu (by have h := hsm; simp only [SmE] at h; exact h.2.2) (by simp)).mono ?_
 rintro e w'' ⟨⟨u, rfl, hu⟩, hb'⟩
 exact ⟨⟨u, rfl, hu.mono fun _ _ _ => trivial⟩, hb'⟩
theorem op_compare_g (m : Mg) (l : Ls) (w : World) (hm : MgM w m l) (hk : LsOk m l) (hv : validB m l = true) (hop : m.op = 14) : Calls Tryz.prog 73 #[.agg m.row] w fun e w' => (∃ u, e = .returned (.agg (elA (opE m l) u)) ∧ KidsAt (fun g => w.heap.size ≤ g) w' u (opE m l).kids) ∧ Below w.heap.size w w' := by
 obtain ⟨hkb, ⟨hi0, hi1⟩, hmo⟩ := valid_parts hv
 have hrow1 : m.row[1]? = some (.int .i64 14) := by rw [← hop]; rfl
 have hE : opE m l = .mk 1 14 (El.cons (.mk 0 16 true [] [.mk 0 4 false m.dn [], .mk 0 16 true [] [.mk 0 4 false m.typ [], .mk 0 4 false m.value []]])) (El.bytes (.mk 0 16 true [] [.mk 0 4 false m.dn [], .mk 0 16 true [] [.mk 0 4 false m.typ [], .mk 0 4 false m.value []]])) (El.kids (.mk 0 16 true [] [.mk 0 4 false m.dn [], .mk 0 16 true [] [.mk 0 4 false m.typ [], .mk 0 4 false m.value []]])) := by simp [opE, hop, El.cons, El.bytes, El.kids]
 rw [hE]
 have hr : l.mods.all (fun x => rngB x.1 2) = true := by rw [hmo (by rw [hop]; decide)]; rfl
 have hsm : SmE (.mk 0 16 true [] [.mk 0 4 false m.dn [], .mk 0 16 true [] [.mk 0 4 false m.typ [], .mk 0 4 false m.value []]]) := by
  have h1 := hk.dn
  have h2 := hk.typ
  have h3 := hk.value
  simp [SmE, SmL]
  omega
 refine op_known (opx w m l) m.row w 54 14 (by decide) (.mk 0 16 true [] [.mk 0 4 false m.dn [], .mk 0 16 true [] [.mk 0 4 false m.typ [], .mk 0 4 false m.value []]]) (hsm) rfl hrow1 rfl rfl rfl rfl rfl (by have := hk.typ; show m.typ.length ≤ _; omega) (by have := hk.value; show m.value.length ≤ _; omega) (mods_seqM hm hk hr) (attrs_seqM hm hk) ?_
 intro V w' hV hb hM
 obtain ⟨bc, u, rfl, hc, hu⟩ : Clos [.mk 0 4 false m.dn [], .mk 0 16 true [] [.mk 0 4 false m.typ [], .mk 0 4 false m.value []]] V w' := hV
 refine ⟨_, _, rfl, callee11, ?_⟩
 refine (clos1_any bc u [.mk 0 4 false m.dn [], .mk 0 16 true [] [.mk 0 4 false m.typ [], .mk 0 4 false m.value []]] w' hc hu (by have h := hsm; simp only [SmE] at h; exact h.2.2) (by simp)).mono ?_
 rintro e w'' ⟨⟨u, rfl, hu⟩, hb'⟩
 exact ⟨⟨u, rfl, hu.mono fun _ _ _ => trivial⟩, hb'⟩
theorem kind_none {m : Mg} {l : Ls} (h : kindB m l = true) (hn : m.op ∉ ([0, 2, 3, 6, 8, 4, 10, 12, 14, 16, 23] : List Int)) : 0 ≤ m.code ∧ m.code ≤ 2147483647 := by
 simp only [List.mem_cons, List.not_mem_nil, or_false, not_or] at hn
 obtain ⟨h0, h2, h3, h6, h8, h4, h10, h12, h14, h16, h23⟩ := hn
 simp only [kindB, h0, h2, h3, h6, h8, h4, h10, h12, h14, h16, h23, if_false, or_self] at h
 by_cases h24 : m.op = 24
 ·simp only [h24, if_true, Bool.and_eq_true, rngB, decide_eq_true_eq] at h; exact h.1
 ·simp only [h24, if_false] at h
  split at h
  ·simp only [rngB, Bool.and_eq_true, decide_eq_true_eq] at h; exact h
  ·cases h
theorem op_result_g (m : Mg) (l : Ls) (w : World) (hm : MgM w m l) (hk : LsOk m l) (hv : validB m l = true) (hn : m.op ∉ ([0, 2, 3, 6, 8, 4, 10, 12, 14, 16, 23] : List Int)) : Calls Tryz.prog 73 #[.agg m.row] w fun e w' => (∃ u, e = .returned (.agg (elA (opE m l) u)) ∧ KidsAt (fun g => w.heap.size ≤ g) w' u (opE m l).kids) ∧ Below w.heap.size w w' := by
 obtain ⟨hkb, ⟨hi0, hi1⟩, hmo⟩ := valid_parts hv
 obtain ⟨hc0, hc1⟩ := kind_none hkb hn
 have hr : l.mods.all (fun x => rngB x.1 2) = true := by rw [hmo (by rintro h; rw [h] at hn; exact hn (by decide))]; rfl
 obtain ⟨hs1, hs2⟩ := sm_answer hk (by omega)
 have hE : opE m l = .mk 1 m.op true [] (answerK m) := by
  simp only [List.mem_cons, List.not_mem_nil, or_false, not_or] at hn
  obtain ⟨h0, h2, h3, h6, h8, h4, h10, h12, h14, h16, h23⟩ := hn
  simp only [opE, h0, h2, h3, h6, h8, h4, h10, h12, h14, h16, h23, if_false, or_self]
 rw [hE]
 exact op_resp (opx w m l) m.row w m.op (fun p hp h => by
  rw [← h] at hn
  revert hn
  simp only [opL, List.mem_cons, List.not_mem_nil, or_false] at hp
  rcases hp with rfl | rfl | rfl | rfl | rfl | rfl | rfl | rfl | rfl | rfl | rfl <;> decide) (answerK m) hs1 (by omega) rfl rfl rfl rfl rfl rfl rfl rfl (by have := hk.typ; show m.typ.length ≤ _; omega) (by have := hk.value; show m.value.length ≤ _; omega) (mods_seqM hm hk hr) (attrs_seqM hm hk) (fun w' _ => answer_any m l hk hc0 hc1 w')
theorem op_any (m : Mg) (l : Ls) (w : World) (hm : MgM w m l) (hk : LsOk m l) (hv : validB m l = true) : Calls Tryz.prog 73 #[.agg m.row] w fun e w' => (∃ u, e = .returned (.agg (elA (opE m l) u)) ∧ KidsAt (fun g => w.heap.size ≤ g) w' u (opE m l).kids) ∧ Below w.heap.size w w' := by
 by_cases h0 : m.op = 0
 ·cases hs : m.sasl
  ·exact op_bind_p m l w hm hk hv h0 hs
  ·exact op_bind_s m l w hm hk hv h0 hs
 by_cases h2 : m.op = 2
 ·exact op_unbind_g m l w hm hk hv h2
 by_cases h3 : m.op = 3
 ·exact op_search_g m l w hm hk hv h3
 by_cases h6 : m.op = 6
 ·exact op_modify_g m l w hm hk hv h6
 by_cases h8 : m.op = 8
 ·exact op_add_g m l w hm hk hv h8
 by_cases h4 : m.op = 4
 ·exact op_entry_g m l w hm hk hv h4
 by_cases h10 : m.op = 10
 ·exact op_delete_g m l w hm hk hv h10
 by_cases h12 : m.op = 12
 ·cases hs : m.hasSup
  ·exact op_move_n m l w hm hk hv h12 hs
  ·exact op_move_s m l w hm hk hv h12 hs
 by_cases h14 : m.op = 14
 ·exact op_compare_g m l w hm hk hv h14
 by_cases h16 : m.op = 16
 ·exact op_abandon_g m l w hm hk hv h16
 by_cases h23 : m.op = 23
 ·cases hs : m.has
  ·exact op_extend_n m l w hm hk hv h23 hs
  ·exact op_extend_s m l w hm hk hv h23 hs
 exact op_result_g m l w hm hk hv (by simp only [List.mem_cons, List.not_mem_nil, or_false, not_or]; exact ⟨h0, h2, h3, h6, h8, h4, h10, h12, h14, h16, h23⟩)
end Go.Proofs.YthjaiigijbjloaaGreatDoor
