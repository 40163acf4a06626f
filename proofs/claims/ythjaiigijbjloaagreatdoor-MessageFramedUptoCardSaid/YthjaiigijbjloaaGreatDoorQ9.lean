/- MsP. -/
import Derived.Test.YthjaiigijbjloaaGreatDoorQ8
namespace Go.Proofs.YthjaiigijbjloaaGreatDoor
open Go.RowKit Go.Lib
def SeqV (l : List El) (v : Value) (w : World) : Prop := ∃ u, v = .agg (elA (.mk 0 16 true [] l) u) ∧ KidsAt (fun _ => True) w u l
def Clos (l : List El) (v : Value) (w : World) : Prop := ∃ b u, v = .func (.func 115) #[] #[.pointer (some ⟨b, 0, none⟩)] ∧ w.cell? ⟨b, 0, none⟩ = some u ∧ KidsAt (fun _ => True) w u l
theorem SeqV.hk {l : List El} {v : Value} {w w' : World} (h : SeqV l v w) (k : Hk w w') : SeqV l v w' := by
 obtain ⟨u, e, q⟩ := h
 exact ⟨u, e, q.hk k⟩
theorem Clos.hk {l : List El} {v : Value} {w w' : World} (h : Clos l v w) (k : Hk w w') : Clos l v w' := by
 obtain ⟨b, u, e, hc, q⟩ := h
 exact ⟨b, u, e, k.2 _ _ _ hc, q.hk k⟩
structure OpX where
 M : Nat
 dn : List UInt8
 typ : List UInt8
 value : List UInt8
 vm : Value
 va : Value
 lm : List El
 la : List El
def opL : List (Nat × Int) := [(2, 0), (3, 2), (5, 3), (15, 6), (25, 8), (35, 4), (37, 10), (39, 12), (54, 14), (56, 16), (58, 23)]
def opV (x : OpX) : Nat → Value → World → Prop
 | 2, v, _ => v = .func (.func 116) #[] #[.pointer (some ⟨x.M, 0, none⟩)]
 | 3, v, _ => v = .func (.func 117) #[] #[]
 | 5, v, _ => v = .func (.func 118) #[] #[.pointer (some ⟨x.M, 0, none⟩)]
 | 15, v, w => Clos [(.mk 0 4 false x.dn []), .mk 0 16 true [] x.lm] v w
 | 25, v, w => Clos [(.mk 0 4 false x.dn []), .mk 0 16 true [] x.la] v w
 | 35, v, w => Clos [(.mk 0 4 false x.dn []), .mk 0 16 true [] x.la] v w
 | 37, v, _ => v = .func (.func 123) #[] #[.pointer (some ⟨x.M, 0, none⟩)]
 | 39, v, _ => v = .func (.func 124) #[] #[.pointer (some ⟨x.M, 0, none⟩)]
 | 54, v, w => Clos [(.mk 0 4 false x.dn []), .mk 0 16 true [] [(.mk 0 4 false x.typ []), (.mk 0 4 false x.value [])]] v w
 | 56, v, _ => v = .func (.func 125) #[] #[.pointer (some ⟨x.M, 0, none⟩)]
 | 58, v, _ => v = .func (.func 126) #[] #[.pointer (some ⟨x.M, 0, none⟩)]
 | _, _, _ => True
def opG (x : OpX) : Nat → Value → World → Prop
 | 1, v, _ => v = .func (.func 116) #[] #[.pointer (some ⟨x.M, 0, none⟩)]
 | 4, v, _ => v = .func (.func 118) #[] #[.pointer (some ⟨x.M, 0, none⟩)]
 | 6, v, _ => v = .func (.func 114) #[] #[]
 | 7, v, _ => v = .pointer (some ⟨x.M, 2, none⟩)
 | 8, v, _ => v = .string ⟨x.dn.toArray⟩
 | 9, v, _ => v = .agg (elA (.mk 0 4 false x.dn []) (.slice none 0 0))
 | 10, v, _ => v = .pointer (some ⟨x.M, 13, none⟩)
 | 11, v, _ => v = x.vm
 | 12, v, w => SeqV x.lm v w
 | 13, v, w => KidsAt (fun _ => True) w v [(.mk 0 4 false x.dn []), .mk 0 16 true [] x.lm]
 | 14, v, w => Clos [(.mk 0 4 false x.dn []), .mk 0 16 true [] x.lm] v w
 | 16, v, _ => v = .func (.func 114) #[] #[]
 | 17, v, _ => v = .pointer (some ⟨x.M, 2, none⟩)
 | 18, v, _ => v = .string ⟨x.dn.toArray⟩
 | 19, v, _ => v = .agg (elA (.mk 0 4 false x.dn []) (.slice none 0 0))
 | 20, v, _ => v = .pointer (some ⟨x.M, 14, none⟩)
 | 21, v, _ => v = x.va
 | 22, v, w => SeqV x.la v w
 | 23, v, w => KidsAt (fun _ => True) w v [(.mk 0 4 false x.dn []), .mk 0 16 true [] x.la]
 | 24, v, w => Clos [(.mk 0 4 false x.dn []), .mk 0 16 true [] x.la] v w
 | 26, v, _ => v = .func (.func 114) #[] #[]
 | 27, v, _ => v = .pointer (some ⟨x.M, 2, none⟩)
 | 28, v, _ => v = .string ⟨x.dn.toArray⟩
 | 29, v, _ => v = .agg (elA (.mk 0 4 false x.dn []) (.slice none 0 0))
 | 30, v, _ => v = .pointer (some ⟨x.M, 14, none⟩)
 | 31, v, _ => v = x.va
 | 32, v, w => SeqV x.la v w
 | 33, v, w => KidsAt (fun _ => True) w v [(.mk 0 4 false x.dn []), .mk 0 16 true [] x.la]
 | 34, v, w => Clos [(.mk 0 4 false x.dn []), .mk 0 16 true [] x.la] v w
 | 36, v, _ => v = .func (.func 123) #[] #[.pointer (some ⟨x.M, 0, none⟩)]
 | 38, v, _ => v = .func (.func 124) #[] #[.pointer (some ⟨x.M, 0, none⟩)]
 | 40, v, _ => v = .func (.func 114) #[] #[]
 | 41, v, _ => v = .pointer (some ⟨x.M, 2, none⟩)
 | 42, v, _ => v = .string ⟨x.dn.toArray⟩
 | 43, v, _ => v = .agg (elA (.mk 0 4 false x.dn []) (.slice none 0 0))
 | 44, v, _ => v = .pointer (some ⟨x.M, 19, none⟩)
 | 45, v, _ => v = .string ⟨x.typ.toArray⟩
 | 46, v, _ => v = .agg (elA (.mk 0 4 false x.typ []) (.slice none 0 0))
 | 47, v, _ => v = .pointer (some ⟨x.M, 20, none⟩)
 | 48, v, _ => v = .string ⟨x.value.toArray⟩
 | 49, v, _ => v = .agg (elA (.mk 0 4 false x.value []) (.slice none 0 0))
 | 50, v, w => KidsAt (fun _ => True) w v [(.mk 0 4 false x.typ []), (.mk 0 4 false x.value [])]
 | 51, v, w => SeqV [(.mk 0 4 false x.typ []), (.mk 0 4 false x.value [])] v w
 | 52, v, w => KidsAt (fun _ => True) w v [(.mk 0 4 false x.dn []), .mk 0 16 true [] [(.mk 0 4 false x.typ []), (.mk 0 4 false x.value [])]]
 | 53, v, w => Clos [(.mk 0 4 false x.dn []), .mk 0 16 true [] [(.mk 0 4 false x.typ []), (.mk 0 4 false x.value [])]] v w
 | 55, v, _ => v = .func (.func 125) #[] #[.pointer (some ⟨x.M, 0, none⟩)]
 | 57, v, _ => v = .func (.func 126) #[] #[.pointer (some ⟨x.M, 0, none⟩)]
 | 59, v, w => ∃ r, v = .map (some r) ∧ MapAll opL (opV x) (fun _ => true) r w
 | 60, v, w => ∃ r, v = .map (some r) ∧ MapAll opL (opV x) (fun _ => true) r w
 | _, _, _ => True
theorem opV_hk (x : OpX) : ∀ (i : Nat) (v : Value) (w w' : World), Hk w w' → opV x i v w → opV x i v w' := by
 intro i v w w' k h
 unfold opV at h ⊢
 split at h
 all_goals first
  | exact h
  | exact Clos.hk h k
  | trivial
def opH (x : OpX) (w w' : World) : Prop := Hk w w' ∧ ∀ r, MapAll opL (opV x) (fun _ => true) r w → MapAll opL (opV x) (fun _ => true) r w'
theorem opH_below (x : OpX) {w w' : World} (h : Below w.heap.size w w') : opH x w w' :=
 ⟨Hk.below h, fun r hr => hr.keep (by obtain ⟨es, c, hb, _⟩ := hr; exact h.block r (gl hb)) (fun i v q => opV_hk x i v _ _ (Hk.below h) q) (fun _ _ => rfl)⟩
theorem opG_keep (x : OpX) : ∀ (i : Nat) (v : Value) (w w' : World), opH x w w' → opG x i v w → opG x i v w' := by
 intro i v w w' k h
 unfold opG at h ⊢
 split at h
 all_goals first
  | exact h
  | exact Clos.hk h k.1
  | exact SeqV.hk h k.1
  | exact KidsAt.hk h k.1
  | (obtain ⟨r, e, hr⟩ := h; exact ⟨r, e, k.2 r hr⟩)
  | trivial
def opB (x : OpX) (E : Value) (w0 : World) (listed : Array Bool) (a : Act) (w : World) : Prop :=
 a.tmps[1]? = some (.pointer (some ⟨x.M, 0, none⟩)) ∧ a.tmps[2]? = some E ∧ a.tmps[3]? = some (.func (.func 114) #[] #[]) ∧ a.defers = [] ∧ Below w0.heap.size w0 w ∧ (∀ p ∈ opL, listed.getD p.1 false = true → listed.getD 0 false = true) ∧
  (listed.getD 0 false = true → ∃ r, a.tmps[7]? = some (.map (some r)) ∧ w0.heap.size ≤ r ∧ MapAll opL (opV x) (fun j => listed.getD j false) r w)
theorem opB_keep (x : OpX) {E : Value} {w0 : World} {listed : Array Bool} {a : Act} {w w' : World} {i : Nat} {o : Oper} {v : Value} (h : opB x E w0 listed a w) (hd : o.dst ≠ some 1 ∧ o.dst ≠ some 2 ∧ o.dst ≠ some 3 ∧ o.dst ≠ some 7) (hi : i ≠ 0 ∧ ∀ p ∈ opL, p.1 ≠ i) (hb : Below w.heap.size w w') :
  opB x E w0 (listed.setIfInBounds i true) (a.put o.dst v) w' := by
 have hp : ∀ d, o.dst ≠ some d → (a.put o.dst v).tmps[d]? = a.tmps[d]? := by
  intro d hd'
  unfold Act.put
  cases h1 : o.dst with
  | none => rfl
  | some d1 =>
   have : d1 ≠ d := fun e => hd' (by rw [h1, e])
   simp [this]
 have hl : ∀ j, j ≠ i → (listed.setIfInBounds i true).getD j false = listed.getD j false := by
  intro j hj
  simp [Ne.symm hj]
 obtain ⟨h1, h2, h3, h4, h5, h7, h6⟩ := h
 refine ⟨(hp 1 hd.1).trans h1, (hp 2 hd.2.1).trans h2, (hp 3 hd.2.2.1).trans h3, ?_, h5.trans (hb.mono h5.size), fun p hp' q => (hl 0 (Ne.symm hi.1)).trans (h7 p hp' ((hl p.1 (hi.2 p hp')).symm.trans q)), fun q => ?_⟩
 ·unfold Act.put
  cases o.dst <;> exact h4
 ·rw [hl 0 (Ne.symm hi.1)] at q
  obtain ⟨r, e, hr, hm⟩ := h6 q
  refine ⟨r, (hp 7 hd.2.2.2).trans e, hr, hm.keep ?_ (fun i v q => opV_hk x i v _ _ (Hk.below hb) q) (fun p hp' => hl p.1 (hi.2 p hp'))⟩
  obtain ⟨es, c, hbk, _⟩ := hm
  exact hb.block r (gl hbk)
def opT : List (Op × Option Tmp) := [
 (.makeMap 148 none, some 7),
 (.makeFunc (.func 116) #[] #[.tmp 1], some 8),
 (.insert 148 (.tmp 7) (.const (.int .i64 0)) (.tmp 8), none),
 (.insert 148 (.tmp 7) (.const (.int .i64 2)) (.func 117), none),
 (.makeFunc (.func 118) #[] #[.tmp 1], some 9),
 (.insert 148 (.tmp 7) (.const (.int .i64 3)) (.tmp 9), none),
 (.move (.tmp 3), some 10),
 (.fieldAddr 28 (.tmp 1) 2, some 11),
 (.load 9 (.tmp 11), some 12),
 (.call { callee := .value (.func 74), args := #[.tmp 12], argTypes := #[9] }, some 13),
 (.fieldAddr 28 (.tmp 1) 13, some 14),
 (.load 24 (.tmp 14), some 15),
 (.call { callee := .value (.func 121), args := #[.tmp 15], argTypes := #[24] }, some 16),
 (.buildSlice 43 2 #[(0, .tmp 13), (1, .tmp 16)], some 17),
 (.call { callee := .value (.tmp 10), args := #[.tmp 17], argTypes := #[43] }, some 18),
 (.insert 148 (.tmp 7) (.const (.int .i64 6)) (.tmp 18), none),
 (.move (.tmp 3), some 19),
 (.fieldAddr 28 (.tmp 1) 2, some 20),
 (.load 9 (.tmp 20), some 21),
 (.call { callee := .value (.func 74), args := #[.tmp 21], argTypes := #[9] }, some 22),
 (.fieldAddr 28 (.tmp 1) 14, some 23),
 (.load 25 (.tmp 23), some 24),
 (.call { callee := .value (.func 122), args := #[.tmp 24], argTypes := #[25] }, some 25),
 (.buildSlice 43 2 #[(0, .tmp 22), (1, .tmp 25)], some 26),
 (.call { callee := .value (.tmp 19), args := #[.tmp 26], argTypes := #[43] }, some 27),
 (.insert 148 (.tmp 7) (.const (.int .i64 8)) (.tmp 27), none),
 (.move (.tmp 3), some 28),
 (.fieldAddr 28 (.tmp 1) 2, some 29),
 (.load 9 (.tmp 29), some 30),
 (.call { callee := .value (.func 74), args := #[.tmp 30], argTypes := #[9] }, some 31),
 (.fieldAddr 28 (.tmp 1) 14, some 32),
 (.load 25 (.tmp 32), some 33),
 (.call { callee := .value (.func 122), args := #[.tmp 33], argTypes := #[25] }, some 34),
 (.buildSlice 43 2 #[(0, .tmp 31), (1, .tmp 34)], some 35),
 (.call { callee := .value (.tmp 28), args := #[.tmp 35], argTypes := #[43] }, some 36),
 (.insert 148 (.tmp 7) (.const (.int .i64 4)) (.tmp 36), none),
 (.makeFunc (.func 123) #[] #[.tmp 1], some 37),
 (.insert 148 (.tmp 7) (.const (.int .i64 10)) (.tmp 37), none),
 (.makeFunc (.func 124) #[] #[.tmp 1], some 38),
 (.insert 148 (.tmp 7) (.const (.int .i64 12)) (.tmp 38), none),
 (.move (.tmp 3), some 39),
 (.fieldAddr 28 (.tmp 1) 2, some 40),
 (.load 9 (.tmp 40), some 41),
 (.call { callee := .value (.func 74), args := #[.tmp 41], argTypes := #[9] }, some 42),
 (.fieldAddr 28 (.tmp 1) 19, some 43),
 (.load 9 (.tmp 43), some 44),
 (.call { callee := .value (.func 74), args := #[.tmp 44], argTypes := #[9] }, some 45),
 (.fieldAddr 28 (.tmp 1) 20, some 46),
 (.load 9 (.tmp 46), some 47),
 (.call { callee := .value (.func 74), args := #[.tmp 47], argTypes := #[9] }, some 48),
 (.buildSlice 43 2 #[(0, .tmp 45), (1, .tmp 48)], some 49),
 (.call { callee := .value (.func 76), args := #[.tmp 49], argTypes := #[43] }, some 50),
 (.buildSlice 43 2 #[(0, .tmp 42), (1, .tmp 50)], some 51),
 (.call { callee := .value (.tmp 39), args := #[.tmp 51], argTypes := #[43] }, some 52),
 (.insert 148 (.tmp 7) (.const (.int .i64 14)) (.tmp 52), none),
 (.makeFunc (.func 125) #[] #[.tmp 1], some 53),
 (.insert 148 (.tmp 7) (.const (.int .i64 16)) (.tmp 53), none),
 (.makeFunc (.func 126) #[] #[.tmp 1], some 54),
 (.insert 148 (.tmp 7) (.const (.int .i64 23)) (.tmp 54), none),
 (.move (.tmp 7), some 55),
 (.assign (.tmp 55), some 4)]
def waits (ops : Array Oper) (i j : Nat) : Bool := match ops[i]? with | none => false | some o => o.after.toList.any fun e => Region.binds .any e && (e.on == j)
theorem waits_at {ops : Array Oper} {i j : Nat} {o : Oper} (h : waits ops i j = true) (ho : ops[i]? = some o) {listed : Array Bool} (hall : ∀ e ∈ o.after, Region.binds .any e = true → listed.getD e.on false = true) : listed.getD j false = true := by
 unfold waits at h
 rw [ho] at h
 simp only [List.any_eq_true, Bool.and_eq_true, beq_iff_eq] at h
 obtain ⟨e, he, hb, rfl⟩ := h
 exact hall e (by simpa using he) hb
def opW : List (Nat × Nat) := [(2, 0), (2, 1), (3, 0), (5, 0), (5, 4), (8, 7), (9, 8), (11, 10), (12, 11), (13, 9), (13, 12), (14, 6), (14, 13), (15, 0), (15, 14), (18, 17), (19, 18), (21, 20), (22, 21), (23, 19), (23, 22), (24, 16), (24, 23), (25, 0), (25, 24), (28, 27), (29, 28), (31, 30), (32, 31), (33, 29), (33, 32), (34, 26), (34, 33), (35, 0), (35, 34), (37, 0), (37, 36), (39, 0), (39, 38), (42, 41), (43, 42), (45, 44), (46, 45), (48, 47), (49, 48), (50, 46), (50, 49), (51, 50), (52, 43), (52, 51), (53, 40), (53, 52), (54, 0), (54, 53), (56, 0), (56, 55), (58, 0), (58, 57), (59, 0), (59, 2), (59, 3), (59, 5), (59, 15), (59, 25), (59, 35), (59, 37), (59, 39), (59, 54), (59, 56), (59, 58), (60, 59)]
structure OpC (x : OpX) (E : Value) (w0 : World) (ops : Array Oper) (i : Nat) (o : Oper) (listed : Array Bool) (a : Act) (w : World) : Prop where
 ho : ops[i]? = some o
 hi : listed.getD i true = false
 hsz : listed.size = ops.size
 hn : a.tmps.size = 74
 hB : opB x E w0 listed a w
 hg : ∀ (j : Nat) (o' : Oper), ops[j]? = some o' → listed.getD j false = true → opG x j (slotV a o') w
 hall : ∀ e ∈ o.after, Region.binds .any e = true → listed.getD e.on false = true
 hok : tabOk .any 74 ops = true
 htab : ops.toList.map (fun o => (o.op, o.dst)) = opT
 hwt : (opW.all fun p => waits ops p.1 p.2) = true
theorem eval_at {a : Act} {d : Nat} {v : Value} (h : a.tmps[d]? = some v) : a.eval (.tmp d) = v := by
 show a.tmps.getD d undef = v
 simp [h]
theorem tab_at {ops : Array Oper} {T : List (Op × Option Tmp)} (h : ops.toList.map (fun o => (o.op, o.dst)) = T) {i : Nat} {o : Oper} (ho : ops[i]? = some o) : T[i]? = some (o.op, o.dst) := by
 rw [← h]
 simp [ho]
theorem tab_back {ops : Array Oper} {T : List (Op × Option Tmp)} (h : ops.toList.map (fun o => (o.op, o.dst)) = T) {i : Nat} {p : Op} {d : Option Tmp} (ht : T[i]? = some (p, d)) : ∃ o, ops[i]? = some o ∧ o.op = p ∧ o.dst = d := by
 rw [← h] at ht
 simp only [List.getElem?_map, Option.map_eq_some_iff, Array.getElem?_toList] at ht
 obtain ⟨o, ho, e⟩ := ht
 exact ⟨o, ho, congrArg Prod.fst e, congrArg Prod.snd e⟩
section
variable {x : OpX} {E : Value} {w0 : World} {ops : Array Oper} {i : Nat} {o : Oper} {listed : Array Bool} {a : Act} {w : World} {Q : Exit → Act → World → Prop} {K : Act → World → Prop}
theorem OpC.came (c : OpC x E w0 ops i o listed a w) {j : Nat} (hm : (i, j) ∈ opW) : listed.getD j false = true :=
 waits_at (List.all_eq_true.1 c.hwt (i, j) hm) c.ho c.hall
theorem OpC.dep (c : OpC x E w0 ops i o listed a w) {j d : Nat} {p : Op} (hm : (i, j) ∈ opW) (ht : opT[j]? = some (p, some d)) : ∃ v, a.tmps[d]? = some v ∧ opG x j v w := by
 obtain ⟨o', ho', _, hd⟩ := tab_back c.htab ht
 exact ⟨_, slot_at hd (by rw [c.hn]; exact ((tabOk_at c.hok ho').2.2 d hd).1), c.hg j o' ho' (c.came hm)⟩
theorem OpC.value (c : OpC x E w0 ops i o listed a w) {d : Nat} {v : Value} {w' : World} (hd : o.dst = some d) (hd' : d ≠ 1 ∧ d ≠ 2 ∧ d ≠ 3 ∧ d ≠ 7) (hi : i ≠ 0 ∧ ∀ p ∈ opL, p.1 ≠ i)
  (hr : (execOp a.eval o).run Tryz.prog w = .ok (.value v) w') (hb : Below w.heap.size w w') (hv : opG x i v w')
  (hK : ∀ (v : Value) (w' : World), opG x i (match o.dst with | some _ => v | none => undef) w' → opH x w w' → opB x E w0 (listed.setIfInBounds i true) (a.put o.dst v) w' → K (a.put o.dst v) w') : Oper.wp Tryz.prog o a w K Q := by
 refine wp_value hr (hK v w' ?_ (opH_below x hb) (opB_keep x c.hB ?_ hi hb))
 ·rw [hd]; exact hv
 ·rw [hd]; simpa using hd'
theorem OpC.enter (c : OpC x E w0 ops i o listed a w) {d : Nat} {f : FuncId} {args : Array Value} (hd : o.dst = some d) (hd' : d ≠ 1 ∧ d ≠ 2 ∧ d ≠ 3 ∧ d ≠ 7) (hi : i ≠ 0 ∧ ∀ p ∈ opL, p.1 ≠ i)
  (hr : (execOp a.eval o).run Tryz.prog w = .ok (.enter f args) w) (hv : Calls Tryz.prog f args w fun e w' => (∃ v, e = .returned v ∧ opG x i v w') ∧ Below w.heap.size w w')
  (hK : ∀ (v : Value) (w' : World), opG x i (match o.dst with | some _ => v | none => undef) w' → opH x w w' → opB x E w0 (listed.setIfInBounds i true) (a.put o.dst v) w' → K (a.put o.dst v) w') : Oper.wp Tryz.prog o a w K Q := by
 refine wp_enter hr (hv.mono ?_)
 rintro e w' ⟨⟨v, rfl, hv⟩, hb⟩
 refine ⟨v, rfl, hK v w' ?_ (opH_below x hb) (opB_keep x c.hB ?_ hi hb)⟩
 ·rw [hd]; exact hv
 ·rw [hd]; simpa using hd'
end
theorem exec_move {P : Program} {ρ : Operand → Value} {o : Oper} {y : Operand} {v : Value} {w : World} (h : o.op = .move y) (hv : ρ y = v) : (execOp ρ o).run P w = .ok (.value v) w := by
 unfold execOp; rw [h, ← hv]; rfl
theorem exec_assign {P : Program} {ρ : Operand → Value} {o : Oper} {y : Operand} {v : Value} {w : World} (h : o.op = .assign y) (hv : ρ y = v) : (execOp ρ o).run P w = .ok (.value v) w := by
 unfold execOp; rw [h, ← hv]; rfl
theorem exec_makeFunc {P : Program} {ρ : Operand → Value} {o : Oper} {fn : Fn} {y : Operand} {v : Value} {w : World} (h : o.op = .makeFunc fn #[] #[y]) (hv : ρ y = v) : (execOp ρ o).run P w = .ok (.value (.func fn #[] #[v])) w := by
 have hmf : ∀ (fn : Fn) (first cap : Array Value) (w : World), (Instr.makeFunc fn first cap).run P w = .ok (.func fn first cap) w := fun _ _ _ _ => rfl
 obtain ⟨dst, op, ty, pos, after, guard⟩ := o
 simp only at h
 subst h
 subst hv
 go_simp
theorem exec_field {ρ : Operand → Value} {o : Oper} {y : Operand} {M k : Nat} {w : World} (hk : k ∈ [1, 2, 13, 14, 19, 20]) (h : o.op = .fieldAddr 28 y k) (hv : ρ y = .pointer (some ⟨M, 0, none⟩)) : (execOp ρ o).run Tryz.prog w = .ok (.value (.pointer (some ⟨M, k, none⟩))) w := by
 obtain ⟨dst, op, ty, pos, after, guard⟩ := o
 simp only at h
 subst h
 simp only [List.mem_cons, List.not_mem_nil, or_false] at hk
 rcases hk with rfl | rfl | rfl | rfl | rfl | rfl <;> go_simp
theorem exec_load {ρ : Operand → Value} {o : Oper} {y : Operand} {M k : Nat} {t : TypeId} {v : Value} {w : World} (ht : t = 9 ∨ t = 24 ∨ t = 25 ∨ t = 3) (h : o.op = .load t y) (hv : ρ y = .pointer (some ⟨M, k, none⟩)) (hc : w.cell? ⟨M, k, none⟩ = some v) : (execOp ρ o).run Tryz.prog w = .ok (.value v) w := by
 obtain ⟨dst, op, ty, pos, after, guard⟩ := o
 simp only at h
 subst h
 rcases ht with rfl | rfl | rfl | rfl <;> go_simp
theorem exec_call1 {P : Program} {ρ : Operand → Value} {o : Oper} {y z : Operand} {t : TypeId} {f : FuncId} {cap : Array Value} {v : Value} {w : World} (h : o.op = .call { callee := .value y, args := #[z], argTypes := #[t] }) (hf : ρ y = .func (.func f) #[] cap) (hv : ρ z = v) (hc : ∀ args : Array Value, (callFunc f args).run P w = .ok (.enter f args) w) : (execOp ρ o).run P w = .ok (.enter f (#[v] ++ cap)) w := by
 obtain ⟨dst, op, ty, pos, after, guard⟩ := o
 simp only at h
 subst h
 subst hv
 go_simp
theorem callee_known (f : FuncId) (hf : f ∈ [74, 121, 122, 114, 76]) (args : Array Value) (w : World) : (callFunc f args).run Tryz.prog w = .ok (.enter f args) w := by
 simp only [List.mem_cons, List.not_mem_nil, or_false] at hf
 rcases hf with rfl | rfl | rfl | rfl | rfl <;> go_simp
theorem exec_bs2 {ρ : Operand → Value} {o : Oper} {y z : Operand} {e1 e2 : El} {a1 a2 : Option Addr} {n1 n2 c1 c2 : Nat} {w : World} (h : o.op = .buildSlice 43 2 #[(0, y), (1, z)]) (hy : ρ y = .agg (elA e1 (.slice a1 n1 c1))) (hz : ρ z = .agg (elA e2 (.slice a2 n2 c2))) :
  (execOp ρ o).run Tryz.prog w = .ok (.value (.slice (some ⟨w.heap.size, 0, none⟩) 2 2)) (w.alloc (.cells #[.int .i64 e1.cls, .int .i64 e1.tag, .bool e1.cons, .string ⟨e1.bytes.toArray⟩, .slice a1 n1 c1, .int .i64 e2.cls, .int .i64 e2.tag, .bool e2.cons, .string ⟨e2.bytes.toArray⟩, .slice a2 n2 c2] 45)) := by
 obtain ⟨dst, op, ty, pos, after, guard⟩ := o
 simp only at h
 subst h
 simp only [elA] at hy hz
 go_simp
end Go.Proofs.YthjaiigijbjloaaGreatDoor
