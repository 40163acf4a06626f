/- MsQ. -/
import Derived.Test.YthjaiigijbjloaaGreatDoorQ9
import Derived.Test.YthjaiigijbjloaaGreatDoorQ10
namespace Go.Proofs.YthjaiigijbjloaaGreatDoor
open Go.RowKit Go.Lib
structure OpM (x : OpX) (w0 : World) : Prop where
 cdn : w0.cell? ⟨x.M, 2, none⟩ = some (.string ⟨x.dn.toArray⟩)
 cvm : w0.cell? ⟨x.M, 13, none⟩ = some x.vm
 cva : w0.cell? ⟨x.M, 14, none⟩ = some x.va
 ctyp : w0.cell? ⟨x.M, 19, none⟩ = some (.string ⟨x.typ.toArray⟩)
 cval : w0.cell? ⟨x.M, 20, none⟩ = some (.string ⟨x.value.toArray⟩)
 mods : ∀ w', Below w0.heap.size w0 w' → Calls Tryz.prog 121 #[x.vm] w' fun e w'' => (∃ v, e = .returned v ∧ SeqV x.lm v w'') ∧ Below w'.heap.size w' w''
 attrs : ∀ w', Below w0.heap.size w0 w' → Calls Tryz.prog 122 #[x.va] w' fun e w'' => (∃ v, e = .returned v ∧ SeqV x.la v w'') ∧ Below w'.heap.size w' w''
 styp : x.typ.length ≤ 1000000000
 sval : x.value.length ≤ 1000000000
theorem wp_skip_of {P : Program} {o : Oper} {a : Act} {w w' : World} {K : Act → World → Prop} {Q : Exit → Act → World → Prop} (hr : (execOp a.eval o).run P w = .ok .skip w') (h : K (a.put o.dst undef) w') : Oper.wp P o a w K Q := by
 unfold Oper.wp
 rw [hr]
 exact h
theorem exec_insert {P : Program} {ρ : Operand → Value} {o : Oper} {t : TypeId} {m k y : Operand} {mv kv v : Value} {w w' : World} (h : o.op = .insert t m k y) (hm : ρ m = mv) (hk : ρ k = kv) (hv : ρ y = v) (hr : (Instr.mapUpdate t mv kv v).run P w = .ok () w') : (execOp ρ o).run P w = .ok .skip w' := by
 obtain ⟨dst, op, ty, pos, after, guard⟩ := o
 simp only at h
 subst h
 subst hm
 subst hk
 subst hv
 go_simp
theorem exec_makeMap {ρ : Operand → Value} {o : Oper} {w : World} (h : o.op = .makeMap 148 none) : (execOp ρ o).run Tryz.prog w = .ok (.value (.map (some w.heap.size))) (w.alloc (.map #[] 0)) := by
 obtain ⟨dst, op, ty, pos, after, guard⟩ := o
 simp only at h
 subst h
 have hmm : ∀ (t : TypeId) (w : World), (Instr.makeMap t none).run Tryz.prog w = .ok (.map (some w.heap.size)) (w.alloc (.map #[] 0)) := fun _ _ => rfl
 go_simp
theorem bs_kids {e1 e2 : El} {a1 a2 : Option Addr} {n1 n2 c1 c2 : Nat} {w : World} (h1 : KidsAt (fun _ => True) w (.slice a1 n1 c1) e1.kids) (h2 : KidsAt (fun _ => True) w (.slice a2 n2 c2) e2.kids) :
  KidsAt (fun _ => True) (w.alloc (.cells #[.int .i64 e1.cls, .int .i64 e1.tag, .bool e1.cons, .string ⟨e1.bytes.toArray⟩, .slice a1 n1 c1, .int .i64 e2.cls, .int .i64 e2.tag, .bool e2.cons, .string ⟨e2.bytes.toArray⟩, .slice a2 n2 c2] 45)) (.slice (some ⟨w.heap.size, 0, none⟩) 2 2) [e1, e2] := by
 have hb : Below w.heap.size w (w.alloc (.cells #[.int .i64 e1.cls, .int .i64 e1.tag, .bool e1.cons, .string ⟨e1.bytes.toArray⟩, .slice a1 n1 c1, .int .i64 e2.cls, .int .i64 e2.tag, .bool e2.cons, .string ⟨e2.bytes.toArray⟩, .slice a2 n2 c2] 45)) := (Below.refl _ _).alloc (Nat.le_refl _) _
 refine kids_flat (l := [e1, e2]) (us := [.slice a1 n1 c1, .slice a2 n2 c2]) (alloc_at _ _ _ rfl) (by simp [flatE]) rfl (fun j e u hj hu => ?_) trivial
 have h3 : j = 0 ∨ j = 1 := by have h9 := (List.getElem?_eq_some_iff.1 hj).1; simp at h9; omega
 rcases h3 with rfl | rfl
 ·simp at hj hu; subst hj; subst hu; exact h1.below hb
 ·simp at hj hu; subst hj; subst hu; exact h2.below hb
theorem str_kids (s : List UInt8) (w : World) : KidsAt (fun _ => True) w (.slice none 0 0) (El.kids (.mk 0 4 false s [])) := KidsAt.nil _ _
section
variable {x : OpX} {E : Value} {w0 : World} {ops : Array Oper} {o : Oper} {listed : Array Bool} {a : Act} {w : World} {Q : Exit → Act → World → Prop} {K : Act → World → Prop}
theorem OpC.hi' {i : Nat} (c : OpC x E w0 ops i o listed a w) : listed.getD i false = false := by
 have h := c.hi
 rcases Nat.lt_or_ge i listed.size with h' | h'
 ·simp [h'] at h ⊢; exact h
 ·simp [Array.getElem?_eq_none h'] at h
theorem op_insert {i : Nat} {k : Int} {y : Operand} {val : Value} (c : OpC x E w0 ops i o listed a w) (hop : o.op = .insert 148 (.tmp 7) (.const (.int .i64 k)) y) (hd : o.dst = none) (hL : (i, k) ∈ opL) (hW : (i, 0) ∈ opW) (hy : a.eval y = val) (hval : opV x i val w) (hT : ∀ v w, opG x i v w)
  (hK : ∀ (v : Value) (w' : World), opG x i (match o.dst with | some _ => v | none => undef) w' → opH x w w' → opB x E w0 (listed.setIfInBounds i true) (a.put o.dst v) w' → K (a.put o.dst v) w') : Oper.wp Tryz.prog o a w K Q := by
 obtain ⟨h1, h2, h3, h4, h5, h7, h6⟩ := c.hB
 have hc0 := c.came hW
 obtain ⟨r, hr7, hrw, hm⟩ := h6 hc0
 have hinj : ∀ p ∈ opL, p.2 = k → p.1 = i := by
  have : ∀ p ∈ opL, ∀ q ∈ opL, p.2 = q.2 → p.1 = q.1 := by decide
  exact fun p hp e => this p hp (i, k) hL e
 have hdist : ∀ p ∈ opL, p.1 = i → p.2 = k := by
  have : ∀ p ∈ opL, ∀ q ∈ opL, p.1 = q.1 → p.2 = q.2 := by decide
  exact fun p hp e => this p hp (i, k) hL e
 obtain ⟨w', hrun, hm', hsz, hoth, e1, e2, e3, hH⟩ := run_layAll (P := Tryz.prog) 148 3 127 i k val (by kernel_rfl) (by kernel_rfl) hm hL hinj hdist c.hi' (fun i v w w' q => opV_hk x i v w w' q) hval
 refine wp_skip_of (exec_insert hop (eval_at hr7) rfl hy hrun) (hK undef w' (hT _ _) ⟨hH, fun r' hr' => ?_⟩ ?_)
 ·by_cases hrr : r' = r
  ·exfalso
   subst hrr
   obtain ⟨es, cl, hb, _, q3⟩ := hr'
   obtain ⟨es', cl', hb', q2', _⟩ := hm
   rw [hb] at hb'
   cases hb'
   obtain ⟨z, hz, hzk⟩ := q3 (i, k) hL rfl
   obtain ⟨p, hp, hpl, hpk, _⟩ := q2' z hz
   rw [hzk] at hpk
   injection hpk with _ hpk
   have := hinj p hp hpk.symm
   simp only at hpl
   rw [this, c.hi'] at hpl
   cases hpl
  ·exact hr'.keep (hoth r' hrr) (fun j v q => opV_hk x j v _ _ hH q) (fun _ _ => rfl)
 ·rw [hd]
  have hil : i < listed.size := by
   rw [c.hsz]
   exact (gl c.ho)
  have hl : ∀ j, (listed.setIfInBounds i true).getD j false = if j = i then true else listed.getD j false := by
   intro j
   by_cases hj : j = i
   ·subst hj; simp [hil]
   ·simp [hj, Ne.symm hj]
  refine ⟨h1, h2, h3, h4, ⟨e1.trans h5.os, e2.trans h5.tape, e3.trans h5.output, by have := h5.size; omega, fun j hj => (hoth j (by omega)).trans (h5.block j hj)⟩, fun p hp _ => ?_, fun _ => ⟨r, hr7, hrw, hm'.keep rfl (fun _ _ q => q) (fun p _ => hl p.1)⟩⟩
  rw [hl]
  split
  ·rfl
  ·exact hc0
theorem op_s0 (_m : OpM x w0) (c : OpC x E w0 ops 0 o listed a w) (hK : ∀ (v : Value) (w' : World), opG x 0 (match o.dst with | some _ => v | none => undef) w' → opH x w w' → opB x E w0 (listed.setIfInBounds 0 true) (a.put o.dst v) w' → K (a.put o.dst v) w') : Oper.wp Tryz.prog o a w K Q := by
 obtain ⟨q1, q2⟩ := Prod.mk.inj (Option.some.inj (tab_at c.htab c.ho))
 obtain ⟨h1, h2, h3, h4, h5, h7, h6⟩ := c.hB
 have hb : Below w.heap.size w (w.alloc (.map #[] 0)) := (Below.refl _ _).alloc (Nat.le_refl _) _
 refine wp_value (exec_makeMap q1.symm) (hK _ _ trivial (opH_below x hb) ?_)
 rw [← q2]
 have hil : 0 < listed.size := by
  rw [c.hsz]
  exact (gl c.ho)
 have hno : ∀ p ∈ opL, listed.getD p.1 false = false := by
  intro p hp
  cases hq : listed.getD p.1 false with
  | false => rfl
  | true => have := h7 p hp hq; rw [c.hi'] at this; cases this
 have hp0 : ∀ p ∈ opL, p.1 ≠ 0 := by decide
 have hne : ∀ p ∈ opL, (listed.setIfInBounds 0 true).getD p.1 false = false := by
  intro p hp
  have q := hno p hp
  simp [Ne.symm (hp0 p hp)] at q ⊢
  exact q
 have hs7 : 7 < a.tmps.size := by rw [c.hn]; decide
 refine ⟨?_, ?_, ?_, h4, h5.trans (hb.mono h5.size), fun p hp q => ?_, fun _ => ⟨w.heap.size, ?_, h5.size, #[], 0, alloc_at _ _ _ rfl, ?_, fun p hp q => ?_⟩⟩
 ·show (a.tmps.setIfInBounds 7 _)[1]? = _
  simp [h1]
 ·show (a.tmps.setIfInBounds 7 _)[2]? = _
  simp [h2]
 ·show (a.tmps.setIfInBounds 7 _)[3]? = _
  simp [h3]
 ·rw [hne p hp] at q; cases q
 ·show (a.tmps.setIfInBounds 7 _)[7]? = _
  simp [hs7]
 ·intro z hz; simp at hz
 ·have := hne p hp
  simp only at q
  rw [this] at q; cases q
theorem op_s1 (_m : OpM x w0) (c : OpC x E w0 ops 1 o listed a w) (hK : ∀ (v : Value) (w' : World), opG x 1 (match o.dst with | some _ => v | none => undef) w' → opH x w w' → opB x E w0 (listed.setIfInBounds 1 true) (a.put o.dst v) w' → K (a.put o.dst v) w') : Oper.wp Tryz.prog o a w K Q := by
 obtain ⟨q1, q2⟩ := Prod.mk.inj (Option.some.inj (tab_at c.htab c.ho))
 exact c.value q2.symm (by decide) (by decide) (exec_makeFunc q1.symm (eval_at c.hB.1)) (Below.refl _ _) rfl hK
theorem op_s2 (_m : OpM x w0) (c : OpC x E w0 ops 2 o listed a w) (hK : ∀ (v : Value) (w' : World), opG x 2 (match o.dst with | some _ => v | none => undef) w' → opH x w w' → opB x E w0 (listed.setIfInBounds 2 true) (a.put o.dst v) w' → K (a.put o.dst v) w') : Oper.wp Tryz.prog o a w K Q := by
 obtain ⟨q1, q2⟩ := Prod.mk.inj (Option.some.inj (tab_at c.htab c.ho))
 obtain ⟨v1, p1, g1⟩ := c.dep (j := 1) (d := 8) (by decide) rfl
 exact op_insert c q1.symm q2.symm (by decide) (by decide) (eval_at p1) g1 (fun _ _ => trivial) hK
theorem op_s3 (_m : OpM x w0) (c : OpC x E w0 ops 3 o listed a w) (hK : ∀ (v : Value) (w' : World), opG x 3 (match o.dst with | some _ => v | none => undef) w' → opH x w w' → opB x E w0 (listed.setIfInBounds 3 true) (a.put o.dst v) w' → K (a.put o.dst v) w') : Oper.wp Tryz.prog o a w K Q := by
 obtain ⟨q1, q2⟩ := Prod.mk.inj (Option.some.inj (tab_at c.htab c.ho))
 exact op_insert c q1.symm q2.symm (by decide) (by decide) rfl rfl (fun _ _ => trivial) hK
theorem op_s4 (_m : OpM x w0) (c : OpC x E w0 ops 4 o listed a w) (hK : ∀ (v : Value) (w' : World), opG x 4 (match o.dst with | some _ => v | none => undef) w' → opH x w w' → opB x E w0 (listed.setIfInBounds 4 true) (a.put o.dst v) w' → K (a.put o.dst v) w') : Oper.wp Tryz.prog o a w K Q := by
 obtain ⟨q1, q2⟩ := Prod.mk.inj (Option.some.inj (tab_at c.htab c.ho))
 exact c.value q2.symm (by decide) (by decide) (exec_makeFunc q1.symm (eval_at c.hB.1)) (Below.refl _ _) rfl hK
theorem op_s5 (_m : OpM x w0) (c : OpC x E w0 ops 5 o listed a w) (hK : ∀ (v : Value) (w' : World), opG x 5 (match o.dst with | some _ => v | none => undef) w' → opH x w w' → opB x E w0 (listed.setIfInBounds 5 true) (a.put o.dst v) w' → K (a.put o.dst v) w') : Oper.wp Tryz.prog o a w K Q := by
 obtain ⟨q1, q2⟩ := Prod.mk.inj (Option.some.inj (tab_at c.htab c.ho))
 obtain ⟨v1, p1, g1⟩ := c.dep (j := 4) (d := 9) (by decide) rfl
 exact op_insert c q1.symm q2.symm (by decide) (by decide) (eval_at p1) g1 (fun _ _ => trivial) hK
theorem op_s6 (_m : OpM x w0) (c : OpC x E w0 ops 6 o listed a w) (hK : ∀ (v : Value) (w' : World), opG x 6 (match o.dst with | some _ => v | none => undef) w' → opH x w w' → opB x E w0 (listed.setIfInBounds 6 true) (a.put o.dst v) w' → K (a.put o.dst v) w') : Oper.wp Tryz.prog o a w K Q := by
 obtain ⟨q1, q2⟩ := Prod.mk.inj (Option.some.inj (tab_at c.htab c.ho))
 exact c.value q2.symm (by decide) (by decide) (exec_move q1.symm (eval_at c.hB.2.2.1)) (Below.refl _ _) rfl hK
theorem op_s7 (_m : OpM x w0) (c : OpC x E w0 ops 7 o listed a w) (hK : ∀ (v : Value) (w' : World), opG x 7 (match o.dst with | some _ => v | none => undef) w' → opH x w w' → opB x E w0 (listed.setIfInBounds 7 true) (a.put o.dst v) w' → K (a.put o.dst v) w') : Oper.wp Tryz.prog o a w K Q := by
 obtain ⟨q1, q2⟩ := Prod.mk.inj (Option.some.inj (tab_at c.htab c.ho))
 exact c.value q2.symm (by decide) (by decide) (exec_field (by decide) q1.symm (eval_at c.hB.1)) (Below.refl _ _) rfl hK
theorem op_s8 (m : OpM x w0) (c : OpC x E w0 ops 8 o listed a w) (hK : ∀ (v : Value) (w' : World), opG x 8 (match o.dst with | some _ => v | none => undef) w' → opH x w w' → opB x E w0 (listed.setIfInBounds 8 true) (a.put o.dst v) w' → K (a.put o.dst v) w') : Oper.wp Tryz.prog o a w K Q := by
 obtain ⟨q1, q2⟩ := Prod.mk.inj (Option.some.inj (tab_at c.htab c.ho))
 obtain ⟨v1, p1, g1⟩ := c.dep (j := 7) (d := 11) (by decide) rfl
 have g1 : v1 = .pointer (some ⟨x.M, 2, none⟩) := g1
 subst g1
 have hc := (c.hB.2.2.2.2.1.cell (lt_of_cell m.cdn)).trans m.cdn
 exact c.value q2.symm (by decide) (by decide) (exec_load (by decide) q1.symm (eval_at p1) hc) (Below.refl _ _) rfl hK
theorem op_s9 (_m : OpM x w0) (c : OpC x E w0 ops 9 o listed a w) (hK : ∀ (v : Value) (w' : World), opG x 9 (match o.dst with | some _ => v | none => undef) w' → opH x w w' → opB x E w0 (listed.setIfInBounds 9 true) (a.put o.dst v) w' → K (a.put o.dst v) w') : Oper.wp Tryz.prog o a w K Q := by
 obtain ⟨q1, q2⟩ := Prod.mk.inj (Option.some.inj (tab_at c.htab c.ho))
 obtain ⟨v1, p1, g1⟩ := c.dep (j := 8) (d := 12) (by decide) rfl
 have g1 : v1 = .string ⟨x.dn.toArray⟩ := g1
 subst g1
 exact c.enter q2.symm (by decide) (by decide) (exec_call1 q1.symm rfl (eval_at p1) (fun args => callee_known _ (by decide) args w)) ((mstr_any x.dn w).mono fun e w' h => ⟨⟨_, h.1, rfl⟩, h.2⟩) hK
theorem op_s10 (_m : OpM x w0) (c : OpC x E w0 ops 10 o listed a w) (hK : ∀ (v : Value) (w' : World), opG x 10 (match o.dst with | some _ => v | none => undef) w' → opH x w w' → opB x E w0 (listed.setIfInBounds 10 true) (a.put o.dst v) w' → K (a.put o.dst v) w') : Oper.wp Tryz.prog o a w K Q := by
 obtain ⟨q1, q2⟩ := Prod.mk.inj (Option.some.inj (tab_at c.htab c.ho))
 exact c.value q2.symm (by decide) (by decide) (exec_field (by decide) q1.symm (eval_at c.hB.1)) (Below.refl _ _) rfl hK
theorem op_s11 (m : OpM x w0) (c : OpC x E w0 ops 11 o listed a w) (hK : ∀ (v : Value) (w' : World), opG x 11 (match o.dst with | some _ => v | none => undef) w' → opH x w w' → opB x E w0 (listed.setIfInBounds 11 true) (a.put o.dst v) w' → K (a.put o.dst v) w') : Oper.wp Tryz.prog o a w K Q := by
 obtain ⟨q1, q2⟩ := Prod.mk.inj (Option.some.inj (tab_at c.htab c.ho))
 obtain ⟨v1, p1, g1⟩ := c.dep (j := 10) (d := 14) (by decide) rfl
 have g1 : v1 = .pointer (some ⟨x.M, 13, none⟩) := g1
 subst g1
 have hc := (c.hB.2.2.2.2.1.cell (lt_of_cell m.cvm)).trans m.cvm
 exact c.value q2.symm (by decide) (by decide) (exec_load (by decide) q1.symm (eval_at p1) hc) (Below.refl _ _) rfl hK
theorem op_s12 (m : OpM x w0) (c : OpC x E w0 ops 12 o listed a w) (hK : ∀ (v : Value) (w' : World), opG x 12 (match o.dst with | some _ => v | none => undef) w' → opH x w w' → opB x E w0 (listed.setIfInBounds 12 true) (a.put o.dst v) w' → K (a.put o.dst v) w') : Oper.wp Tryz.prog o a w K Q := by
 obtain ⟨q1, q2⟩ := Prod.mk.inj (Option.some.inj (tab_at c.htab c.ho))
 obtain ⟨v1, p1, g1⟩ := c.dep (j := 11) (d := 15) (by decide) rfl
 have g1 : v1 = x.vm := g1
 subst g1
 exact c.enter q2.symm (by decide) (by decide) (exec_call1 q1.symm rfl (eval_at p1) (fun args => callee_known _ (by decide) args w)) (m.mods w c.hB.2.2.2.2.1) hK
theorem op_s13 (_m : OpM x w0) (c : OpC x E w0 ops 13 o listed a w) (hK : ∀ (v : Value) (w' : World), opG x 13 (match o.dst with | some _ => v | none => undef) w' → opH x w w' → opB x E w0 (listed.setIfInBounds 13 true) (a.put o.dst v) w' → K (a.put o.dst v) w') : Oper.wp Tryz.prog o a w K Q := by
 obtain ⟨q1, q2⟩ := Prod.mk.inj (Option.some.inj (tab_at c.htab c.ho))
 obtain ⟨v1, p1, g1⟩ := c.dep (j := 9) (d := 13) (by decide) rfl
 obtain ⟨v2, p2, g2⟩ := c.dep (j := 12) (d := 16) (by decide) rfl
 have g1 : v1 = .agg (elA (.mk 0 4 false x.dn []) (.slice none 0 0)) := g1
 subst g1
 obtain ⟨u2, e2, k2⟩ : SeqV x.lm v2 w := g2
 obtain ⟨b2, l2, s2⟩ := k2.shape
 subst s2
 subst e2
 exact c.value q2.symm (by decide) (by decide) (exec_bs2 q1.symm (eval_at p1) (eval_at p2)) ((Below.refl _ _).alloc (Nat.le_refl _) _) (bs_kids (str_kids _ w) k2) hK
theorem op_s14 (_m : OpM x w0) (c : OpC x E w0 ops 14 o listed a w) (hK : ∀ (v : Value) (w' : World), opG x 14 (match o.dst with | some _ => v | none => undef) w' → opH x w w' → opB x E w0 (listed.setIfInBounds 14 true) (a.put o.dst v) w' → K (a.put o.dst v) w') : Oper.wp Tryz.prog o a w K Q := by
 obtain ⟨q1, q2⟩ := Prod.mk.inj (Option.some.inj (tab_at c.htab c.ho))
 obtain ⟨v1, p1, g1⟩ := c.dep (j := 6) (d := 10) (by decide) rfl
 have g1 : v1 = .func (.func 114) #[] #[] := g1
 subst g1
 obtain ⟨v2, p2, g2⟩ := c.dep (j := 13) (d := 17) (by decide) rfl
 have g2 : KidsAt (fun _ => True) w v2 [(.mk 0 4 false x.dn []), .mk 0 16 true [] x.lm] := g2
 have hs : ∃ a n c, v2 = .slice a n c := by
  obtain ⟨b, n, s⟩ := g2.shape
  exact ⟨_, _, _, s⟩
 refine c.enter q2.symm (by decide) (by decide) (exec_call1 q1.symm (eval_at p1) (eval_at p2) (fun args => callee_known _ (by decide) args w)) ((clos_any v2 w hs).mono ?_) hK
 rintro e w' ⟨⟨b, rfl, hc⟩, hb⟩
 exact ⟨⟨_, rfl, b, v2, rfl, hc, g2.below hb⟩, hb⟩
theorem op_s15 (_m : OpM x w0) (c : OpC x E w0 ops 15 o listed a w) (hK : ∀ (v : Value) (w' : World), opG x 15 (match o.dst with | some _ => v | none => undef) w' → opH x w w' → opB x E w0 (listed.setIfInBounds 15 true) (a.put o.dst v) w' → K (a.put o.dst v) w') : Oper.wp Tryz.prog o a w K Q := by
 obtain ⟨q1, q2⟩ := Prod.mk.inj (Option.some.inj (tab_at c.htab c.ho))
 obtain ⟨v1, p1, g1⟩ := c.dep (j := 14) (d := 18) (by decide) rfl
 exact op_insert c q1.symm q2.symm (by decide) (by decide) (eval_at p1) g1 (fun _ _ => trivial) hK
theorem op_s16 (_m : OpM x w0) (c : OpC x E w0 ops 16 o listed a w) (hK : ∀ (v : Value) (w' : World), opG x 16 (match o.dst with | some _ => v | none => undef) w' → opH x w w' → opB x E w0 (listed.setIfInBounds 16 true) (a.put o.dst v) w' → K (a.put o.dst v) w') : Oper.wp Tryz.prog o a w K Q := by
 obtain ⟨q1, q2⟩ := Prod.mk.inj (Option.some.inj (tab_at c.htab c.ho))
 exact c.value q2.symm (by decide) (by decide) (exec_move q1.symm (eval_at c.hB.2.2.1)) (Below.refl _ _) rfl hK
theorem op_s17 (_m : OpM x w0) (c : OpC x E w0 ops 17 o listed a w) (hK : ∀ (v : Value) (w' : World), opG x 17 (match o.dst with | some _ => v | none => undef) w' → opH x w w' → opB x E w0 (listed.setIfInBounds 17 true) (a.put o.dst v) w' → K (a.put o.dst v) w') : Oper.wp Tryz.prog o a w K Q := by
 obtain ⟨q1, q2⟩ := Prod.mk.inj (Option.some.inj (tab_at c.htab c.ho))
 exact c.value q2.symm (by decide) (by decide) (exec_field (by decide) q1.symm (eval_at c.hB.1)) (Below.refl _ _) rfl hK
theorem op_s18 (m : OpM x w0) (c : OpC x E w0 ops 18 o listed a w) (hK : ∀ (v : Value) (w' : World), opG x 18 (match o.dst with | some _ => v | none => undef) w' → opH x w w' → opB x E w0 (listed.setIfInBounds 18 true) (a.put o.dst v) w' → K (a.put o.dst v) w') : Oper.wp Tryz.prog o a w K Q := by
 obtain ⟨q1, q2⟩ := Prod.mk.inj (Option.some.inj (tab_at c.htab c.ho))
 obtain ⟨v1, p1, g1⟩ := c.dep (j := 17) (d := 20) (by decide) rfl
 have g1 : v1 = .pointer (some ⟨x.M, 2, none⟩) := g1
 subst g1
 have hc := (c.hB.2.2.2.2.1.cell (lt_of_cell m.cdn)).trans m.cdn
 exact c.value q2.symm (by decide) (by decide) (exec_load (by decide) q1.symm (eval_at p1) hc) (Below.refl _ _) rfl hK
theorem op_s19 (_m : OpM x w0) (c : OpC x E w0 ops 19 o listed a w) (hK : ∀ (v : Value) (w' : World), opG x 19 (match o.dst with | some _ => v | none => undef) w' → opH x w w' → opB x E w0 (listed.setIfInBounds 19 true) (a.put o.dst v) w' → K (a.put o.dst v) w') : Oper.wp Tryz.prog o a w K Q := by
 obtain ⟨q1, q2⟩ := Prod.mk.inj (Option.some.inj (tab_at c.htab c.ho))
 obtain ⟨v1, p1, g1⟩ := c.dep (j := 18) (d := 21) (by decide) rfl
 have g1 : v1 = .string ⟨x.dn.toArray⟩ := g1
 subst g1
 exact c.enter q2.symm (by decide) (by decide) (exec_call1 q1.symm rfl (eval_at p1) (fun args => callee_known _ (by decide) args w)) ((mstr_any x.dn w).mono fun e w' h => ⟨⟨_, h.1, rfl⟩, h.2⟩) hK
theorem op_s20 (_m : OpM x w0) (c : OpC x E w0 ops 20 o listed a w) (hK : ∀ (v : Value) (w' : World), opG x 20 (match o.dst with | some _ => v | none => undef) w' → opH x w w' → opB x E w0 (listed.setIfInBounds 20 true) (a.put o.dst v) w' → K (a.put o.dst v) w') : Oper.wp Tryz.prog o a w K Q := by
 obtain ⟨q1, q2⟩ := Prod.mk.inj (Option.some.inj (tab_at c.htab c.ho))
 exact c.value q2.symm (by decide) (by decide) (exec_field (by decide) q1.symm (eval_at c.hB.1)) (Below.refl _ _) rfl hK
theorem op_s21 (m : OpM x w0) (c : OpC x E w0 ops 21 o listed a w) (hK : ∀ (v : Value) (w' : World), opG x 21 (match o.dst with | some _ => v | none => undef) w' → opH x w w' → opB x E w0 (listed.setIfInBounds 21 true) (a.put o.dst v) w' → K (a.put o.dst v) w') : Oper.wp Tryz.prog o a w K Q := by
 obtain ⟨q1, q2⟩ := Prod.mk.inj (Option.some.inj (tab_at c.htab c.ho))
 obtain ⟨v1, p1, g1⟩ := c.dep (j := 20) (d := 23) (by decide) rfl
 have g1 : v1 = .pointer (some ⟨x.M, 14, none⟩) := g1
 subst g1
 have hc := (c.hB.2.2.2.2.1.cell (lt_of_cell m.cva)).trans m.cva
 exact c.value q2.symm (by decide) (by decide) (exec_load (by decide) q1.symm (eval_at p1) hc) (Below.refl _ _) rfl hK
theorem op_s22 (m : OpM x w0) (c : OpC x E w0 ops 22 o listed a w) (hK : ∀ (v : Value) (w' : World), opG x 22 (match o.dst with | some _ => v | none => undef) w' → opH x w w' → opB x E w0 (listed.setIfInBounds 22 true) (a.put o.dst v) w' → K (a.put o.dst v) w') : Oper.wp Tryz.prog o a w K Q := by
 obtain ⟨q1, q2⟩ := Prod.mk.inj (Option.some.inj (tab_at c.htab c.ho))
 obtain ⟨v1, p1, g1⟩ := c.dep (j := 21) (d := 24) (by decide) rfl
 have g1 : v1 = x.va := g1
 subst g1
 exact c.enter q2.symm (by decide) (by decide) (exec_call1 q1.symm rfl (eval_at p1) (fun args => callee_known _ (by decide) args w)) (m.attrs w c.hB.2.2.2.2.1) hK
theorem op_s23 (_m : OpM x w0) (c : OpC x E w0 ops 23 o listed a w) (hK : ∀ (v : Value) (w' : World), opG x 23 (match o.dst with | some _ => v | none => undef) w' → opH x w w' → opB x E w0 (listed.setIfInBounds 23 true) (a.put o.dst v) w' → K (a.put o.dst v) w') : Oper.wp Tryz.prog o a w K Q := by
 obtain ⟨q1, q2⟩ := Prod.mk.inj (Option.some.inj (tab_at c.htab c.ho))
 obtain ⟨v1, p1, g1⟩ := c.dep (j := 19) (d := 22) (by decide) rfl
 obtain ⟨v2, p2, g2⟩ := c.dep (j := 22) (d := 25) (by decide) rfl
 have g1 : v1 = .agg (elA (.mk 0 4 false x.dn []) (.slice none 0 0)) := g1
 subst g1
 obtain ⟨u2, e2, k2⟩ : SeqV x.la v2 w := g2
 obtain ⟨b2, l2, s2⟩ := k2.shape
 subst s2
 subst e2
 exact c.value q2.symm (by decide) (by decide) (exec_bs2 q1.symm (eval_at p1) (eval_at p2)) ((Below.refl _ _).alloc (Nat.le_refl _) _) (bs_kids (str_kids _ w) k2) hK
theorem op_s24 (_m : OpM x w0) (c : OpC x E w0 ops 24 o listed a w) (hK : ∀ (v : Value) (w' : World), opG x 24 (match o.dst with | some _ => v | none => undef) w' → opH x w w' → opB x E w0 (listed.setIfInBounds 24 true) (a.put o.dst v) w' → K (a.put o.dst v) w') : Oper.wp Tryz.prog o a w K Q := by
 obtain ⟨q1, q2⟩ := Prod.mk.inj (Option.some.inj (tab_at c.htab c.ho))
 obtain ⟨v1, p1, g1⟩ := c.dep (j := 16) (d := 19) (by decide) rfl
 have g1 : v1 = .func (.func 114) #[] #[] := g1
 subst g1
 obtain ⟨v2, p2, g2⟩ := c.dep (j := 23) (d := 26) (by decide) rfl
 have g2 : KidsAt (fun _ => True) w v2 [(.mk 0 4 false x.dn []), .mk 0 16 true [] x.la] := g2
 have hs : ∃ a n c, v2 = .slice a n c := by
  obtain ⟨b, n, s⟩ := g2.shape
  exact ⟨_, _, _, s⟩
 refine c.enter q2.symm (by decide) (by decide) (exec_call1 q1.symm (eval_at p1) (eval_at p2) (fun args => callee_known _ (by decide) args w)) ((clos_any v2 w hs).mono ?_) hK
 rintro e w' ⟨⟨b, rfl, hc⟩, hb⟩
 exact ⟨⟨_, rfl, b, v2, rfl, hc, g2.below hb⟩, hb⟩
theorem op_s25 (_m : OpM x w0) (c : OpC x E w0 ops 25 o listed a w) (hK : ∀ (v : Value) (w' : World), opG x 25 (match o.dst with | some _ => v | none => undef) w' → opH x w w' → opB x E w0 (listed.setIfInBounds 25 true) (a.put o.dst v) w' → K (a.put o.dst v) w') : Oper.wp Tryz.prog o a w K Q := by
 obtain ⟨q1, q2⟩ := Prod.mk.inj (Option.some.inj (tab_at c.htab c.ho))
 obtain ⟨v1, p1, g1⟩ := c.dep (j := 24) (d := 27) (by decide) rfl
 exact op_insert c q1.symm q2.symm (by decide) (by decide) (eval_at p1) g1 (fun _ _ => trivial) hK
theorem op_s26 (_m : OpM x w0) (c : OpC x E w0 ops 26 o listed a w) (hK : ∀ (v : Value) (w' : World), opG x 26 (match o.dst with | some _ => v | none => undef) w' → opH x w w' → opB x E w0 (listed.setIfInBounds 26 true) (a.put o.dst v) w' → K (a.put o.dst v) w') : Oper.wp Tryz.prog o a w K Q := by
 obtain ⟨q1, q2⟩ := Prod.mk.inj (Option.some.inj (tab_at c.htab c.ho))
 exact c.value q2.symm (by decide) (by decide) (exec_move q1.symm (eval_at c.hB.2.2.1)) (Below.refl _ _) rfl hK
theorem op_s27 (_m : OpM x w0) (c : OpC x E w0 ops 27 o listed a w) (hK : ∀ (v : Value) (w' : World), opG x 27 (match o.dst with | some _ => v | none => undef) w' → opH x w w' → opB x E w0 (listed.setIfInBounds 27 true) (a.put o.dst v) w' → K (a.put o.dst v) w') : Oper.wp Tryz.prog o a w K Q := by
 obtain ⟨q1, q2⟩ := Prod.mk.inj (Option.some.inj (tab_at c.htab c.ho))
 exact c.value q2.symm (by decide) (by decide) (exec_field (by decide) q1.symm (eval_at c.hB.1)) (Below.refl _ _) rfl hK
theorem op_s28 (m : OpM x w0) (c : OpC x E w0 ops 28 o listed a w) (hK : ∀ (v : Value) (w' : World), opG x 28 (match o.dst with | some _ => v | none => undef) w' → opH x w w' → opB x E w0 (listed.setIfInBounds 28 true) (a.put o.dst v) w' → K (a.put o.dst v) w') : Oper.wp Tryz.prog o a w K Q := by
 obtain ⟨q1, q2⟩ := Prod.mk.inj (Option.some.inj (tab_at c.htab c.ho))
 obtain ⟨v1, p1, g1⟩ := c.dep (j := 27) (d := 29) (by decide) rfl
 have g1 : v1 = .pointer (some ⟨x.M, 2, none⟩) := g1
 subst g1
 have hc := (c.hB.2.2.2.2.1.cell (lt_of_cell m.cdn)).trans m.cdn
 exact c.value q2.symm (by decide) (by decide) (exec_load (by decide) q1.symm (eval_at p1) hc) (Below.refl _ _) rfl hK
theorem op_s29 (_m : OpM x w0) (c : OpC x E w0 ops 29 o listed a w) (hK : ∀ (v : Value) (w' : World), opG x 29 (match o.dst with | some _ => v | none => undef) w' → opH x w w' → opB x E w0 (listed.setIfInBounds 29 true) (a.put o.dst v) w' → K (a.put o.dst v) w') : Oper.wp Tryz.prog o a w K Q := by
 obtain ⟨q1, q2⟩ := Prod.mk.inj (Option.some.inj (tab_at c.htab c.ho))
 obtain ⟨v1, p1, g1⟩ := c.dep (j := 28) (d := 30) (by decide) rfl
 have g1 : v1 = .string ⟨x.dn.toArray⟩ := g1
 subst g1
 exact c.enter q2.symm (by decide) (by decide) (exec_call1 q1.symm rfl (eval_at p1) (fun args => callee_known _ (by decide) args w)) ((mstr_any x.dn w).mono fun e w' h => ⟨⟨_, h.1, rfl⟩, h.2⟩) hK
theorem op_s30 (_m : OpM x w0) (c : OpC x E w0 ops 30 o listed a w) (hK : ∀ (v : Value) (w' : World), opG x 30 (match o.dst with | some _ => v | none => undef) w' → opH x w w' → opB x E w0 (listed.setIfInBounds 30 true) (a.put o.dst v) w' → K (a.put o.dst v) w') : Oper.wp Tryz.prog o a w K Q := by
 obtain ⟨q1, q2⟩ := Prod.mk.inj (Option.some.inj (tab_at c.htab c.ho))
 exact c.value q2.symm (by decide) (by decide) (exec_field (by decide) q1.symm (eval_at c.hB.1)) (Below.refl _ _) rfl hK
theorem op_s31 (m : OpM x w0) (c : OpC x E w0 ops 31 o listed a w) (hK : ∀ (v : Value) (w' : World), opG x 31 (match o.dst with | some _ => v | none => undef) w' → opH x w w' → opB x E w0 (listed.setIfInBounds 31 true) (a.put o.dst v) w' → K (a.put o.dst v) w') : Oper.wp Tryz.prog o a w K Q := by
 obtain ⟨q1, q2⟩ := Prod.mk.inj (Option.some.inj (tab_at c.htab c.ho))
 obtain ⟨v1, p1, g1⟩ := c.dep (j := 30) (d := 32) (by decide) rfl
 have g1 : v1 = .pointer (some ⟨x.M, 14, none⟩) := g1
 subst g1
 have hc := (c.hB.2.2.2.2.1.cell (lt_of_cell m.cva)).trans m.cva
 exact c.value q2.symm (by decide) (by decide) (exec_load (by decide) q1.symm (eval_at p1) hc) (Below.refl _ _) rfl hK
theorem op_s32 (m : OpM x w0) (c : OpC x E w0 ops 32 o listed a w) (hK : ∀ (v : Value) (w' : World), opG x 32 (match o.dst with | some _ => v | none => undef) w' → opH x w w' → opB x E w0 (listed.setIfInBounds 32 true) (a.put o.dst v) w' → K (a.put o.dst v) w') : Oper.wp Tryz.prog o a w K Q := by
 obtain ⟨q1, q2⟩ := Prod.mk.inj (Option.some.inj (tab_at c.htab c.ho))
 obtain ⟨v1, p1, g1⟩ := c.dep (j := 31) (d := 33) (by decide) rfl
 have g1 : v1 = x.va := g1
 subst g1
 exact c.enter q2.symm (by decide) (by decide) (exec_call1 q1.symm rfl (eval_at p1) (fun args => callee_known _ (by decide) args w)) (m.attrs w c.hB.2.2.2.2.1) hK
theorem op_s33 (_m : OpM x w0) (c : OpC x E w0 ops 33 o listed a w) (hK : ∀ (v : Value) (w' : World), opG x 33 (match o.dst with | some _ => v | none => undef) w' → opH x w w' → opB x E w0 (listed.setIfInBounds 33 true) (a.put o.dst v) w' → K (a.put o.dst v) w') : Oper.wp Tryz.prog o a w K Q := by
 obtain ⟨q1, q2⟩ := Prod.mk.inj (Option.some.inj (tab_at c.htab c.ho))
 obtain ⟨v1, p1, g1⟩ := c.dep (j := 29) (d := 31) (by decide) rfl
 obtain ⟨v2, p2, g2⟩ := c.dep (j := 32) (d := 34) (by decide) rfl
 have g1 : v1 = .agg (elA (.mk 0 4 false x.dn []) (.slice none 0 0)) := g1
 subst g1
 obtain ⟨u2, e2, k2⟩ : SeqV x.la v2 w := g2
 obtain ⟨b2, l2, s2⟩ := k2.shape
 subst s2
 subst e2
 exact c.value q2.symm (by decide) (by decide) (exec_bs2 q1.symm (eval_at p1) (eval_at p2)) ((Below.refl _ _).alloc (Nat.le_refl _) _) (bs_kids (str_kids _ w) k2) hK
theorem op_s34 (_m : OpM x w0) (c : OpC x E w0 ops 34 o listed a w) (hK : ∀ (v : Value) (w' : World), opG x 34 (match o.dst with | some _ => v | none => undef) w' → opH x w w' → opB x E w0 (listed.setIfInBounds 34 true) (a.put o.dst v) w' → K (a.put o.dst v) w') : Oper.wp Tryz.prog o a w K Q := by
 obtain ⟨q1, q2⟩ := Prod.mk.inj (Option.some.inj (tab_at c.htab c.ho))
 obtain ⟨v1, p1, g1⟩ := c.dep (j := 26) (d := 28) (by decide) rfl
 have g1 : v1 = .func (.func 114) #[] #[] := g1
 subst g1
 obtain ⟨v2, p2, g2⟩ := c.dep (j := 33) (d := 35) (by decide) rfl
 have g2 : KidsAt (fun _ => True) w v2 [(.mk 0 4 false x.dn []), .mk 0 16 true [] x.la] := g2
 have hs : ∃ a n c, v2 = .slice a n c := by
  obtain ⟨b, n, s⟩ := g2.shape
  exact ⟨_, _, _, s⟩
 refine c.enter q2.symm (by decide) (by decide) (exec_call1 q1.symm (eval_at p1) (eval_at p2) (fun args => callee_known _ (by decide) args w)) ((clos_any v2 w hs).mono ?_) hK
 rintro e w' ⟨⟨b, rfl, hc⟩, hb⟩
 exact ⟨⟨_, rfl, b, v2, rfl, hc, g2.below hb⟩, hb⟩
theorem op_s35 (_m : OpM x w0) (c : OpC x E w0 ops 35 o listed a w) (hK : ∀ (v : Value) (w' : World), opG x 35 (match o.dst with | some _ => v | none => undef) w' → opH x w w' → opB x E w0 (listed.setIfInBounds 35 true) (a.put o.dst v) w' → K (a.put o.dst v) w') : Oper.wp Tryz.prog o a w K Q := by
 obtain ⟨q1, q2⟩ := Prod.mk.inj (Option.some.inj (tab_at c.htab c.ho))
 obtain ⟨v1, p1, g1⟩ := c.dep (j := 34) (d := 36) (by decide) rfl
 exact op_insert c q1.symm q2.symm (by decide) (by decide) (eval_at p1) g1 (fun _ _ => trivial) hK
theorem op_s36 (_m : OpM x w0) (c : OpC x E w0 ops 36 o listed a w) (hK : ∀ (v : Value) (w' : World), opG x 36 (match o.dst with | some _ => v | none => undef) w' → opH x w w' → opB x E w0 (listed.setIfInBounds 36 true) (a.put o.dst v) w' → K (a.put o.dst v) w') : Oper.wp Tryz.prog o a w K Q := by
 obtain ⟨q1, q2⟩ := Prod.mk.inj (Option.some.inj (tab_at c.htab c.ho))
 exact c.value q2.symm (by decide) (by decide) (exec_makeFunc q1.symm (eval_at c.hB.1)) (Below.refl _ _) rfl hK
theorem op_s37 (_m : OpM x w0) (c : OpC x E w0 ops 37 o listed a w) (hK : ∀ (v : Value) (w' : World), opG x 37 (match o.dst with | some _ => v | none => undef) w' → opH x w w' → opB x E w0 (listed.setIfInBounds 37 true) (a.put o.dst v) w' → K (a.put o.dst v) w') : Oper.wp Tryz.prog o a w K Q := by
 obtain ⟨q1, q2⟩ := Prod.mk.inj (Option.some.inj (tab_at c.htab c.ho))
 obtain ⟨v1, p1, g1⟩ := c.dep (j := 36) (d := 37) (by decide) rfl
 exact op_insert c q1.symm q2.symm (by decide) (by decide) (eval_at p1) g1 (fun _ _ => trivial) hK
theorem op_s38 (_m : OpM x w0) (c : OpC x E w0 ops 38 o listed a w) (hK : ∀ (v : Value) (w' : World), opG x 38 (match o.dst with | some _ => v | none => undef) w' → opH x w w' → opB x E w0 (listed.setIfInBounds 38 true) (a.put o.dst v) w' → K (a.put o.dst v) w') : Oper.wp Tryz.prog o a w K Q := by
 obtain ⟨q1, q2⟩ := Prod.mk.inj (Option.some.inj (tab_at c.htab c.ho))
 exact c.value q2.symm (by decide) (by decide) (exec_makeFunc q1.symm (eval_at c.hB.1)) (Below.refl _ _) rfl hK
theorem op_s39 (_m : OpM x w0) (c : OpC x E w0 ops 39 o listed a w) (hK : ∀ (v : Value) (w' : World), opG x 39 (match o.dst with | some _ => v | none => undef) w' → opH x w w' → opB x E w0 (listed.setIfInBounds 39 true) (a.put o.dst v) w' → K (a.put o.dst v) w') : Oper.wp Tryz.prog o a w K Q := by
 obtain ⟨q1, q2⟩ := Prod.mk.inj (Option.some.inj (tab_at c.htab c.ho))
 obtain ⟨v1, p1, g1⟩ := c.dep (j := 38) (d := 38) (by decide) rfl
 exact op_insert c q1.symm q2.symm (by decide) (by decide) (eval_at p1) g1 (fun _ _ => trivial) hK
theorem op_s40 (_m : OpM x w0) (c : OpC x E w0 ops 40 o listed a w) (hK : ∀ (v : Value) (w' : World), opG x 40 (match o.dst with | some _ => v | none => undef) w' → opH x w w' → opB x E w0 (listed.setIfInBounds 40 true) (a.put o.dst v) w' → K (a.put o.dst v) w') : Oper.wp Tryz.prog o a w K Q := by
 obtain ⟨q1, q2⟩ := Prod.mk.inj (Option.some.inj (tab_at c.htab c.ho))
 exact c.value q2.symm (by decide) (by decide) (exec_move q1.symm (eval_at c.hB.2.2.1)) (Below.refl _ _) rfl hK
theorem op_s41 (_m : OpM x w0) (c : OpC x E w0 ops 41 o listed a w) (hK : ∀ (v : Value) (w' : World), opG x 41 (match o.dst with | some _ => v | none => undef) w' → opH x w w' → opB x E w0 (listed.setIfInBounds 41 true) (a.put o.dst v) w' → K (a.put o.dst v) w') : Oper.wp Tryz.prog o a w K Q := by
 obtain ⟨q1, q2⟩ := Prod.mk.inj (Option.some.inj (tab_at c.htab c.ho))
 exact c.value q2.symm (by decide) (by decide) (exec_field (by decide) q1.symm (eval_at c.hB.1)) (Below.refl _ _) rfl hK
theorem op_s42 (m : OpM x w0) (c : OpC x E w0 ops 42 o listed a w) (hK : ∀ (v : Value) (w' : World), opG x 42 (match o.dst with | some _ => v | none => undef) w' → opH x w w' → opB x E w0 (listed.setIfInBounds 42 true) (a.put o.dst v) w' → K (a.put o.dst v) w') : Oper.wp Tryz.prog o a w K Q := by
 obtain ⟨q1, q2⟩ := Prod.mk.inj (Option.some.inj (tab_at c.htab c.ho))
 obtain ⟨v1, p1, g1⟩ := c.dep (j := 41) (d := 40) (by decide) rfl
 have g1 : v1 = .pointer (some ⟨x.M, 2, none⟩) := g1
 subst g1
 have hc := (c.hB.2.2.2.2.1.cell (lt_of_cell m.cdn)).trans m.cdn
 exact c.value q2.symm (by decide) (by decide) (exec_load (by decide) q1.symm (eval_at p1) hc) (Below.refl _ _) rfl hK
theorem op_s43 (_m : OpM x w0) (c : OpC x E w0 ops 43 o listed a w) (hK : ∀ (v : Value) (w' : World), opG x 43 (match o.dst with | some _ => v | none => undef) w' → opH x w w' → opB x E w0 (listed.setIfInBounds 43 true) (a.put o.dst v) w' → K (a.put o.dst v) w') : Oper.wp Tryz.prog o a w K Q := by
 obtain ⟨q1, q2⟩ := Prod.mk.inj (Option.some.inj (tab_at c.htab c.ho))
 obtain ⟨v1, p1, g1⟩ := c.dep (j := 42) (d := 41) (by decide) rfl
 have g1 : v1 = .string ⟨x.dn.toArray⟩ := g1
 subst g1
 exact c.enter q2.symm (by decide) (by decide) (exec_call1 q1.symm rfl (eval_at p1) (fun args => callee_known _ (by decide) args w)) ((mstr_any x.dn w).mono fun e w' h => ⟨⟨_, h.1, rfl⟩, h.2⟩) hK
theorem op_s44 (_m : OpM x w0) (c : OpC x E w0 ops 44 o listed a w) (hK : ∀ (v : Value) (w' : World), opG x 44 (match o.dst with | some _ => v | none => undef) w' → opH x w w' → opB x E w0 (listed.setIfInBounds 44 true) (a.put o.dst v) w' → K (a.put o.dst v) w') : Oper.wp Tryz.prog o a w K Q := by
 obtain ⟨q1, q2⟩ := Prod.mk.inj (Option.some.inj (tab_at c.htab c.ho))
 exact c.value q2.symm (by decide) (by decide) (exec_field (by decide) q1.symm (eval_at c.hB.1)) (Below.refl _ _) rfl hK
theorem op_s45 (m : OpM x w0) (c : OpC x E w0 ops 45 o listed a w) (hK : ∀ (v : Value) (w' : World), opG x 45 (match o.dst with | some _ => v | none => undef) w' → opH x w w' → opB x E w0 (listed.setIfInBounds 45 true) (a.put o.dst v) w' → K (a.put o.dst v) w') : Oper.wp Tryz.prog o a w K Q := by
 obtain ⟨q1, q2⟩ := Prod.mk.inj (Option.some.inj (tab_at c.htab c.ho))
 obtain ⟨v1, p1, g1⟩ := c.dep (j := 44) (d := 43) (by decide) rfl
 have g1 : v1 = .pointer (some ⟨x.M, 19, none⟩) := g1
 subst g1
 have hc := (c.hB.2.2.2.2.1.cell (lt_of_cell m.ctyp)).trans m.ctyp
 exact c.value q2.symm (by decide) (by decide) (exec_load (by decide) q1.symm (eval_at p1) hc) (Below.refl _ _) rfl hK
theorem op_s46 (_m : OpM x w0) (c : OpC x E w0 ops 46 o listed a w) (hK : ∀ (v : Value) (w' : World), opG x 46 (match o.dst with | some _ => v | none => undef) w' → opH x w w' → opB x E w0 (listed.setIfInBounds 46 true) (a.put o.dst v) w' → K (a.put o.dst v) w') : Oper.wp Tryz.prog o a w K Q := by
 obtain ⟨q1, q2⟩ := Prod.mk.inj (Option.some.inj (tab_at c.htab c.ho))
 obtain ⟨v1, p1, g1⟩ := c.dep (j := 45) (d := 44) (by decide) rfl
 have g1 : v1 = .string ⟨x.typ.toArray⟩ := g1
 subst g1
 exact c.enter q2.symm (by decide) (by decide) (exec_call1 q1.symm rfl (eval_at p1) (fun args => callee_known _ (by decide) args w)) ((mstr_any x.typ w).mono fun e w' h => ⟨⟨_, h.1, rfl⟩, h.2⟩) hK
theorem op_s47 (_m : OpM x w0) (c : OpC x E w0 ops 47 o listed a w) (hK : ∀ (v : Value) (w' : World), opG x 47 (match o.dst with | some _ => v | none => undef) w' → opH x w w' → opB x E w0 (listed.setIfInBounds 47 true) (a.put o.dst v) w' → K (a.put o.dst v) w') : Oper.wp Tryz.prog o a w K Q := by
 obtain ⟨q1, q2⟩ := Prod.mk.inj (Option.some.inj (tab_at c.htab c.ho))
 exact c.value q2.symm (by decide) (by decide) (exec_field (by decide) q1.symm (eval_at c.hB.1)) (Below.refl _ _) rfl hK
theorem op_s48 (m : OpM x w0) (c : OpC x E w0 ops 48 o listed a w) (hK : ∀ (v : Value) (w' : World), opG x 48 (match o.dst with | some _ => v | none => undef) w' → opH x w w' → opB x E w0 (listed.setIfInBounds 48 true) (a.put o.dst v) w' → K (a.put o.dst v) w') : Oper.wp Tryz.prog o a w K Q := by
 obtain ⟨q1, q2⟩ := Prod.mk.inj (Option.some.inj (tab_at c.htab c.ho))
 obtain ⟨v1, p1, g1⟩ := c.dep (j := 47) (d := 46) (by decide) rfl
 have g1 : v1 = .pointer (some ⟨x.M, 20, none⟩) := g1
 subst g1
 have hc := (c.hB.2.2.2.2.1.cell (lt_of_cell m.cval)).trans m.cval
 exact c.value q2.symm (by decide) (by decide) (exec_load (by decide) q1.symm (eval_at p1) hc) (Below.refl _ _) rfl hK
theorem op_s49 (_m : OpM x w0) (c : OpC x E w0 ops 49 o listed a w) (hK : ∀ (v : Value) (w' : World), opG x 49 (match o.dst with | some _ => v | none => undef) w' → opH x w w' → opB x E w0 (listed.setIfInBounds 49 true) (a.put o.dst v) w' → K (a.put o.dst v) w') : Oper.wp Tryz.prog o a w K Q := by
 obtain ⟨q1, q2⟩ := Prod.mk.inj (Option.some.inj (tab_at c.htab c.ho))
 obtain ⟨v1, p1, g1⟩ := c.dep (j := 48) (d := 47) (by decide) rfl
 have g1 : v1 = .string ⟨x.value.toArray⟩ := g1
 subst g1
 exact c.enter q2.symm (by decide) (by decide) (exec_call1 q1.symm rfl (eval_at p1) (fun args => callee_known _ (by decide) args w)) ((mstr_any x.value w).mono fun e w' h => ⟨⟨_, h.1, rfl⟩, h.2⟩) hK
theorem op_s50 (_m : OpM x w0) (c : OpC x E w0 ops 50 o listed a w) (hK : ∀ (v : Value) (w' : World), opG x 50 (match o.dst with | some _ => v | none => undef) w' → opH x w w' → opB x E w0 (listed.setIfInBounds 50 true) (a.put o.dst v) w' → K (a.put o.dst v) w') : Oper.wp Tryz.prog o a w K Q := by
 obtain ⟨q1, q2⟩ := Prod.mk.inj (Option.some.inj (tab_at c.htab c.ho))
 obtain ⟨v1, p1, g1⟩ := c.dep (j := 46) (d := 45) (by decide) rfl
 obtain ⟨v2, p2, g2⟩ := c.dep (j := 49) (d := 48) (by decide) rfl
 have g1 : v1 = .agg (elA (.mk 0 4 false x.typ []) (.slice none 0 0)) := g1
 subst g1
 have g2 : v2 = .agg (elA (.mk 0 4 false x.value []) (.slice none 0 0)) := g2
 subst g2
 exact c.value q2.symm (by decide) (by decide) (exec_bs2 q1.symm (eval_at p1) (eval_at p2)) ((Below.refl _ _).alloc (Nat.le_refl _) _) (bs_kids (str_kids _ w) (str_kids _ w)) hK
theorem op_s51 (m : OpM x w0) (c : OpC x E w0 ops 51 o listed a w) (hK : ∀ (v : Value) (w' : World), opG x 51 (match o.dst with | some _ => v | none => undef) w' → opH x w w' → opB x E w0 (listed.setIfInBounds 51 true) (a.put o.dst v) w' → K (a.put o.dst v) w') : Oper.wp Tryz.prog o a w K Q := by
 obtain ⟨q1, q2⟩ := Prod.mk.inj (Option.some.inj (tab_at c.htab c.ho))
 obtain ⟨v1, p1, g1⟩ := c.dep (j := 50) (d := 49) (by decide) rfl
 have g1 : KidsAt (fun _ => True) w v1 [(.mk 0 4 false x.typ []), (.mk 0 4 false x.value [])] := g1
 refine c.enter q2.symm (by decide) (by decide) (exec_call1 q1.symm rfl (eval_at p1) (fun args => callee_known _ (by decide) args w)) ((Seq_any _ v1 w g1 (by simp [SmL, SmE]; exact ⟨m.styp, m.sval⟩) (by simp)).mono ?_) hK
 rintro e w' ⟨⟨u, rfl, hu⟩, hb⟩
 exact ⟨⟨_, rfl, u, rfl, hu.mono fun _ _ _ => trivial⟩, hb⟩
theorem op_s52 (_m : OpM x w0) (c : OpC x E w0 ops 52 o listed a w) (hK : ∀ (v : Value) (w' : World), opG x 52 (match o.dst with | some _ => v | none => undef) w' → opH x w w' → opB x E w0 (listed.setIfInBounds 52 true) (a.put o.dst v) w' → K (a.put o.dst v) w') : Oper.wp Tryz.prog o a w K Q := by
 obtain ⟨q1, q2⟩ := Prod.mk.inj (Option.some.inj (tab_at c.htab c.ho))
 obtain ⟨v1, p1, g1⟩ := c.dep (j := 43) (d := 42) (by decide) rfl
 obtain ⟨v2, p2, g2⟩ := c.dep (j := 51) (d := 50) (by decide) rfl
 have g1 : v1 = .agg (elA (.mk 0 4 false x.dn []) (.slice none 0 0)) := g1
 subst g1
 obtain ⟨u2, e2, k2⟩ : SeqV [(.mk 0 4 false x.typ []), (.mk 0 4 false x.value [])] v2 w := g2
 obtain ⟨b2, l2, s2⟩ := k2.shape
 subst s2
 subst e2
 exact c.value q2.symm (by decide) (by decide) (exec_bs2 q1.symm (eval_at p1) (eval_at p2)) ((Below.refl _ _).alloc (Nat.le_refl _) _) (bs_kids (str_kids _ w) k2) hK
theorem op_s53 (_m : OpM x w0) (c : OpC x E w0 ops 53 o listed a w) (hK : ∀ (v : Value) (w' : World), opG x 53 (match o.dst with | some _ => v | none => undef) w' → opH x w w' → opB x E w0 (listed.setIfInBounds 53 true) (a.put o.dst v) w' → K (a.put o.dst v) w') : Oper.wp Tryz.prog o a w K Q := by
 obtain ⟨q1, q2⟩ := Prod.mk.inj (Option.some.inj (tab_at c.htab c.ho))
 obtain ⟨v1, p1, g1⟩ := c.dep (j := 40) (d := 39) (by decide) rfl
 have g1 : v1 = .func (.func 114) #[] #[] := g1
 subst g1
 obtain ⟨v2, p2, g2⟩ := c.dep (j := 52) (d := 51) (by decide) rfl
 have g2 : KidsAt (fun _ => True) w v2 [(.mk 0 4 false x.dn []), .mk 0 16 true [] [(.mk 0 4 false x.typ []), (.mk 0 4 false x.value [])]] := g2
 have hs : ∃ a n c, v2 = .slice a n c := by
  obtain ⟨b, n, s⟩ := g2.shape
  exact ⟨_, _, _, s⟩
 refine c.enter q2.symm (by decide) (by decide) (exec_call1 q1.symm (eval_at p1) (eval_at p2) (fun args => callee_known _ (by decide) args w)) ((clos_any v2 w hs).mono ?_) hK
 rintro e w' ⟨⟨b, rfl, hc⟩, hb⟩
 exact ⟨⟨_, rfl, b, v2, rfl, hc, g2.below hb⟩, hb⟩
theorem op_s54 (_m : OpM x w0) (c : OpC x E w0 ops 54 o listed a w) (hK : ∀ (v : Value) (w' : World), opG x 54 (match o.dst with | some _ => v | none => undef) w' → opH x w w' → opB x E w0 (listed.setIfInBounds 54 true) (a.put o.dst v) w' → K (a.put o.dst v) w') : Oper.wp Tryz.prog o a w K Q := by
 obtain ⟨q1, q2⟩ := Prod.mk.inj (Option.some.inj (tab_at c.htab c.ho))
 obtain ⟨v1, p1, g1⟩ := c.dep (j := 53) (d := 52) (by decide) rfl
 exact op_insert c q1.symm q2.symm (by decide) (by decide) (eval_at p1) g1 (fun _ _ => trivial) hK
theorem op_s55 (_m : OpM x w0) (c : OpC x E w0 ops 55 o listed a w) (hK : ∀ (v : Value) (w' : World), opG x 55 (match o.dst with | some _ => v | none => undef) w' → opH x w w' → opB x E w0 (listed.setIfInBounds 55 true) (a.put o.dst v) w' → K (a.put o.dst v) w') : Oper.wp Tryz.prog o a w K Q := by
 obtain ⟨q1, q2⟩ := Prod.mk.inj (Option.some.inj (tab_at c.htab c.ho))
 exact c.value q2.symm (by decide) (by decide) (exec_makeFunc q1.symm (eval_at c.hB.1)) (Below.refl _ _) rfl hK
theorem op_s56 (_m : OpM x w0) (c : OpC x E w0 ops 56 o listed a w) (hK : ∀ (v : Value) (w' : World), opG x 56 (match o.dst with | some _ => v | none => undef) w' → opH x w w' → opB x E w0 (listed.setIfInBounds 56 true) (a.put o.dst v) w' → K (a.put o.dst v) w') : Oper.wp Tryz.prog o a w K Q := by
 obtain ⟨q1, q2⟩ := Prod.mk.inj (Option.some.inj (tab_at c.htab c.ho))
 obtain ⟨v1, p1, g1⟩ := c.dep (j := 55) (d := 53) (by decide) rfl
 exact op_insert c q1.symm q2.symm (by decide) (by decide) (eval_at p1) g1 (fun _ _ => trivial) hK
theorem op_s57 (_m : OpM x w0) (c : OpC x E w0 ops 57 o listed a w) (hK : ∀ (v : Value) (w' : World), opG x 57 (match o.dst with | some _ => v | none => undef) w' → opH x w w' → opB x E w0 (listed.setIfInBounds 57 true) (a.put o.dst v) w' → K (a.put o.dst v) w') : Oper.wp Tryz.prog o a w K Q := by
 obtain ⟨q1, q2⟩ := Prod.mk.inj (Option.some.inj (tab_at c.htab c.ho))
 exact c.value q2.symm (by decide) (by decide) (exec_makeFunc q1.symm (eval_at c.hB.1)) (Below.refl _ _) rfl hK
theorem op_s58 (_m : OpM x w0) (c : OpC x E w0 ops 58 o listed a w) (hK : ∀ (v : Value) (w' : World), opG x 58 (match o.dst with | some _ => v | none => undef) w' → opH x w w' → opB x E w0 (listed.setIfInBounds 58 true) (a.put o.dst v) w' → K (a.put o.dst v) w') : Oper.wp Tryz.prog o a w K Q := by
 obtain ⟨q1, q2⟩ := Prod.mk.inj (Option.some.inj (tab_at c.htab c.ho))
 obtain ⟨v1, p1, g1⟩ := c.dep (j := 57) (d := 54) (by decide) rfl
 exact op_insert c q1.symm q2.symm (by decide) (by decide) (eval_at p1) g1 (fun _ _ => trivial) hK
theorem op_s59 (_m : OpM x w0) (c : OpC x E w0 ops 59 o listed a w) (hK : ∀ (v : Value) (w' : World), opG x 59 (match o.dst with | some _ => v | none => undef) w' → opH x w w' → opB x E w0 (listed.setIfInBounds 59 true) (a.put o.dst v) w' → K (a.put o.dst v) w') : Oper.wp Tryz.prog o a w K Q := by
 obtain ⟨q1, q2⟩ := Prod.mk.inj (Option.some.inj (tab_at c.htab c.ho))
 obtain ⟨r, hr7, _, hm⟩ := c.hB.2.2.2.2.2.2 (c.came (by decide))
 have hW : ∀ p ∈ opL, (59, p.1) ∈ opW := by decide
 exact c.value q2.symm (by decide) (by decide) (exec_move q1.symm (eval_at hr7)) (Below.refl _ _) ⟨r, rfl, hm.keep rfl (fun _ _ q => q) (fun p hp => (c.came (hW p hp)).symm)⟩ hK
theorem op_s60 (_m : OpM x w0) (c : OpC x E w0 ops 60 o listed a w) (hK : ∀ (v : Value) (w' : World), opG x 60 (match o.dst with | some _ => v | none => undef) w' → opH x w w' → opB x E w0 (listed.setIfInBounds 60 true) (a.put o.dst v) w' → K (a.put o.dst v) w') : Oper.wp Tryz.prog o a w K Q := by
 obtain ⟨q1, q2⟩ := Prod.mk.inj (Option.some.inj (tab_at c.htab c.ho))
 obtain ⟨v1, p1, g1⟩ := c.dep (j := 59) (d := 55) (by decide) rfl
 exact c.value q2.symm (by decide) (by decide) (exec_assign q1.symm (eval_at p1)) (Below.refl _ _) g1 hK
end
theorem op_region {x : OpX} {E : Value} {w0 : World} {ops : Array Oper} {Q : Exit → Act → World → Prop} (m : OpM x w0) (hok : tabOk .any 74 ops = true) (htab : ops.toList.map (fun o => (o.op, o.dst)) = opT) (hwt : (opW.all fun p => waits ops p.1 p.2) = true)
  (a : Act) (w : World) (hn : a.tmps.size = 74) (h1 : a.tmps[1]? = some (.pointer (some ⟨x.M, 0, none⟩))) (h2 : a.tmps[2]? = some E) (h3 : a.tmps[3]? = some (.func (.func 114) #[] #[])) (h4 : a.defers = []) (h5 : Below w0.heap.size w0 w)
  (hdone : ∀ (a : Act) (w : World) (r : Nat), a.tmps.size = 74 → a.tmps[1]? = some (.pointer (some ⟨x.M, 0, none⟩)) → a.tmps[2]? = some E → a.tmps[3]? = some (.func (.func 114) #[] #[]) → a.tmps[4]? = some (.map (some r)) → a.defers = [] → Below w0.heap.size w0 w → MapAll opL (opV x) (fun _ => true) r w → Q .normal a w) :
  wpAny Tryz.prog .any ops Q ops.size (Array.replicate ops.size false) a w := by
 have hsz : ops.size = 61 := by
  have := congrArg List.length htab
  simpa [opT] using this
 refine region_tab 74 hok (opG x) (opH x) (opB x E w0) (opG_keep x) ?_ a w hn ⟨h1, h2, h3, h4, h5, fun p _ q => ?_, fun q => ?_⟩ ?_
 ·intro i o listed a w ho hi hls hn hB hg hall K' hK
  have c : OpC x E w0 ops i o listed a w := ⟨ho, hi, hls, hn, hB, hg, hall, hok, htab, hwt⟩
  have hlt : i < 61 := by rw [← hsz]; exact (gl ho)
  clear ho hi hls hn hB hg hall
  rcases Nat.lt_succ_iff_lt_or_eq.1 hlt with hlt | rfl
  rotate_left
  ·exact op_s60 m c hK
  rcases Nat.lt_succ_iff_lt_or_eq.1 hlt with hlt | rfl
  rotate_left
  ·exact op_s59 m c hK
  rcases Nat.lt_succ_iff_lt_or_eq.1 hlt with hlt | rfl
  rotate_left
  ·exact op_s58 m c hK
  rcases Nat.lt_succ_iff_lt_or_eq.1 hlt with hlt | rfl
  rotate_left
  ·exact op_s57 m c hK
  rcases Nat.lt_succ_iff_lt_or_eq.1 hlt with hlt | rfl
  rotate_left
  ·exact op_s56 m c hK
  rcases Nat.lt_succ_iff_lt_or_eq.1 hlt with hlt | rfl
  rotate_left
  ·exact op_s55 m c hK
  rcases Nat.lt_succ_iff_lt_or_eq.1 hlt with hlt | rfl
  rotate_left
  ·exact op_s54 m c hK
  rcases Nat.lt_succ_iff_lt_or_eq.1 hlt with hlt | rfl
  rotate_left
  ·exact op_s53 m c hK
  rcases Nat.lt_succ_iff_lt_or_eq.1 hlt with hlt | rfl
  rotate_left
  ·exact op_s52 m c hK
  rcases Nat.lt_succ_iff_lt_or_eq.1 hlt with hlt | rfl
  rotate_left
  ·exact op_s51 m c hK
  rcases Nat.lt_succ_iff_lt_or_eq.1 hlt with hlt | rfl
  rotate_left
  ·exact op_s50 m c hK
  rcases Nat.lt_succ_iff_lt_or_eq.1 hlt with hlt | rfl
  rotate_left
  ·exact op_s49 m c hK
  rcases Nat.lt_succ_iff_lt_or_eq.1 hlt with hlt | rfl
  rotate_left
  ·exact op_s48 m c hK
  rcases Nat.lt_succ_iff_lt_or_eq.1 hlt with hlt | rfl
  rotate_left
  ·exact op_s47 m c hK
  rcases Nat.lt_succ_iff_lt_or_eq.1 hlt with hlt | rfl
  rotate_left
  ·exact op_s46 m c hK
  rcases Nat.lt_succ_iff_lt_or_eq.1 hlt with hlt | rfl
  rotate_left
  ·exact op_s45 m c hK
  rcases Nat.lt_succ_iff_lt_or_eq.1 hlt with hlt | rfl
  rotate_left
  ·exact op_s44 m c hK
  rcases Nat.lt_succ_iff_lt_or_eq.1 hlt with hlt | rfl
  rotate_left
  ·exact op_s43 m c hK
  rcases Nat.lt_succ_iff_lt_or_eq.1 hlt with hlt | rfl
  rotate_left
  ·exact op_s42 m c hK
  rcases Nat.lt_succ_iff_lt_or_eq.1 hlt with hlt | rfl
  rotate_left
  ·exact op_s41 m c hK
  rcases Nat.lt_succ_iff_lt_or_eq.1 hlt with hlt | rfl
  rotate_left
  ·exact op_s40 m c hK
  rcases Nat.lt_succ_iff_lt_or_eq.1 hlt with hlt | rfl
  rotate_left
  ·exact op_s39 m c hK
  rcases Nat.lt_succ_iff_lt_or_eq.1 hlt with hlt | rfl
  rotate_left
  ·exact op_s38 m c hK
  rcases Nat.lt_succ_iff_lt_or_eq.1 hlt with hlt | rfl
  rotate_left
  ·exact op_s37 m c hK
  rcases Nat.lt_succ_iff_lt_or_eq.1 hlt with hlt | rfl
  rotate_left
  ·exact op_s36 m c hK
  rcases Nat.lt_succ_iff_lt_or_eq.1 hlt with hlt | rfl
  rotate_left
  ·exact op_s35 m c hK
  rcases Nat.lt_succ_iff_lt_or_eq.1 hlt with hlt | rfl
  rotate_left
  ·exact op_s34 m c hK
  rcases Nat.lt_succ_iff_lt_or_eq.1 hlt with hlt | rfl
  rotate_left
  ·exact op_s33 m c hK
  rcases Nat.lt_succ_iff_lt_or_eq.1 hlt with hlt | rfl
  rotate_left
  ·exact op_s32 m c hK
  rcases Nat.lt_succ_iff_lt_or_eq.1 hlt with hlt | rfl
  rotate_left
  ·exact op_s31 m c hK
  rcases Nat.lt_succ_iff_lt_or_eq.1 hlt with hlt | rfl
  rotate_left
  ·exact op_s30 m c hK
  rcases Nat.lt_succ_iff_lt_or_eq.1 hlt with hlt | rfl
  rotate_left
  ·exact op_s29 m c hK
  rcases Nat.lt_succ_iff_lt_or_eq.1 hlt with hlt | rfl
  rotate_left
  ·exact op_s28 m c hK
  rcases Nat.lt_succ_iff_lt_or_eq.1 hlt with hlt | rfl
  rotate_left
  ·exact op_s27 m c hK
  rcases Nat.lt_succ_iff_lt_or_eq.1 hlt with hlt | rfl
  rotate_left
  ·exact op_s26 m c hK
  rcases Nat.lt_succ_iff_lt_or_eq.1 hlt with hlt | rfl
  rotate_left
  ·exact op_s25 m c hK
  rcases Nat.lt_succ_iff_lt_or_eq.1 hlt with hlt | rfl
  rotate_left
  ·exact op_s24 m c hK
  rcases Nat.lt_succ_iff_lt_or_eq.1 hlt with hlt | rfl
  rotate_left
  ·exact op_s23 m c hK
  rcases Nat.lt_succ_iff_lt_or_eq.1 hlt with hlt | rfl
  rotate_left
  ·exact op_s22 m c hK
  rcases Nat.lt_succ_iff_lt_or_eq.1 hlt with hlt | rfl
  rotate_left
  ·exact op_s21 m c hK
  rcases Nat.lt_succ_iff_lt_or_eq.1 hlt with hlt | rfl
  rotate_left
  ·exact op_s20 m c hK
  rcases Nat.lt_succ_iff_lt_or_eq.1 hlt with hlt | rfl
  rotate_left
  ·exact op_s19 m c hK
  rcases Nat.lt_succ_iff_lt_or_eq.1 hlt with hlt | rfl
  rotate_left
  ·exact op_s18 m c hK
  rcases Nat.lt_succ_iff_lt_or_eq.1 hlt with hlt | rfl
  rotate_left
  ·exact op_s17 m c hK
  rcases Nat.lt_succ_iff_lt_or_eq.1 hlt with hlt | rfl
  rotate_left
  ·exact op_s16 m c hK
  rcases Nat.lt_succ_iff_lt_or_eq.1 hlt with hlt | rfl
  rotate_left
  ·exact op_s15 m c hK
  rcases Nat.lt_succ_iff_lt_or_eq.1 hlt with hlt | rfl
  rotate_left
  ·exact op_s14 m c hK
  rcases Nat.lt_succ_iff_lt_or_eq.1 hlt with hlt | rfl
  rotate_left
  ·exact op_s13 m c hK
  rcases Nat.lt_succ_iff_lt_or_eq.1 hlt with hlt | rfl
  rotate_left
  ·exact op_s12 m c hK
  rcases Nat.lt_succ_iff_lt_or_eq.1 hlt with hlt | rfl
  rotate_left
  ·exact op_s11 m c hK
  rcases Nat.lt_succ_iff_lt_or_eq.1 hlt with hlt | rfl
  rotate_left
  ·exact op_s10 m c hK
  rcases Nat.lt_succ_iff_lt_or_eq.1 hlt with hlt | rfl
  rotate_left
  ·exact op_s9 m c hK
  rcases Nat.lt_succ_iff_lt_or_eq.1 hlt with hlt | rfl
  rotate_left
  ·exact op_s8 m c hK
  rcases Nat.lt_succ_iff_lt_or_eq.1 hlt with hlt | rfl
  rotate_left
  ·exact op_s7 m c hK
  rcases Nat.lt_succ_iff_lt_or_eq.1 hlt with hlt | rfl
  rotate_left
  ·exact op_s6 m c hK
  rcases Nat.lt_succ_iff_lt_or_eq.1 hlt with hlt | rfl
  rotate_left
  ·exact op_s5 m c hK
  rcases Nat.lt_succ_iff_lt_or_eq.1 hlt with hlt | rfl
  rotate_left
  ·exact op_s4 m c hK
  rcases Nat.lt_succ_iff_lt_or_eq.1 hlt with hlt | rfl
  rotate_left
  ·exact op_s3 m c hK
  rcases Nat.lt_succ_iff_lt_or_eq.1 hlt with hlt | rfl
  rotate_left
  ·exact op_s2 m c hK
  rcases Nat.lt_succ_iff_lt_or_eq.1 hlt with hlt | rfl
  rotate_left
  ·exact op_s1 m c hK
  rcases Nat.lt_succ_iff_lt_or_eq.1 hlt with hlt | rfl
  rotate_left
  ·exact op_s0 m c hK
  exact absurd hlt (Nat.not_lt_zero _)
 ·by_cases h : p.1 < ops.size <;> simp [h] at q
 ·simp [hsz] at q
 ·intro listed a w hall hn hB hg
  obtain ⟨q1, q2, q3, q4, q5, _, _⟩ := hB
  obtain ⟨o', ho', _, hd⟩ := tab_back htab (i := 60) rfl
  obtain ⟨r, e, hm⟩ : ∃ r, slotV a o' = .map (some r) ∧ MapAll opL (opV x) (fun _ => true) r w := hg 60 o' ho'
  have h4 := slot_at hd (by rw [hn]; exact ((tabOk_at hok ho').2.2 _ hd).1)
  rw [e] at h4
  exact hdone a w r hn q1 q2 q3 h4 q4 q5 hm
end Go.Proofs.YthjaiigijbjloaaGreatDoor
