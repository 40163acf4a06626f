/- ReL, ReM. -/
import Derived.Test.YthjaiigijbjloaaGreatDoorT19
namespace Go.Proofs.YthjaiigijbjloaaGreatDoor
open Go.RowKit Go.Lib
set_option maxRecDepth 100000
set_option maxHeartbeats 16000000
theorem s8 (P : Nat → Prop) (b M : Nat) (l : List El) (id op : Int) (w : World) (hM : w.heap[M]? = some (.cells (Mg.row { id := id, op := op }) 28 (0, 0))) (hbM : b ≠ M) (hP : ∀ g, P g → g ≠ M) (h : RowA P b l w) :
  Calls Tryz.prog 155 #[.pointer (some ⟨M, 0, none⟩), .pointer (some ⟨b, 0, none⟩)] w fun e w' => Out (dI id op l) (fun y v w' => v = .tuple #[] ∧ MgO w.heap.size M y.1 w' ∧ RowA (fun g => P g ∧ g < w.heap.size) b y.2 w') e w' ∧ Lft [b, M] w.heap.size w w' := by
 by_cases h24 : op = 24
 ·subst h24
  exact qA P b M l id w hM hbM hP h
 ·exact mr P b M l id op w hM hbM hP h h24
theorem ji {el : El} {c t : Int} {ks : List El} (h : ci el c t = some ks) : dL ks ≤ ed el := by
 unfold ci at h
 split at h
 ·cases h
  cases el;simp only [ed, El.kids]
  omega
 ·cases h
theorem ey.found {V : Nat → Value → World → Prop} {listed : Nat → Bool} {r : Nat} {w : World} (h : ey oTb V listed r w) (hl : ∀ p ∈ oTb, listed p.1 = true) (k : Int) :
  (∃ i v, (i, k) ∈ oTb ∧ V i v w ∧ (Instr.lookup 165 (.map (some r)) (.int .i64 k) true).run Tryz.prog w = .ok (.tuple #[v, .bool true]) w) ∨ ((∀ p ∈ oTb, p.2 ≠ k) ∧ (Instr.lookup 165 (.map (some r)) (.int .i64 k) true).run Tryz.prog w = .ok (.tuple #[.nilFunc, Bf]) w) := by
 obtain ⟨es, c, hb, hq1, hq2⟩ := h;have hz : (zeroValue 1).run Tryz.prog w = .ok .nilFunc w := by go_simp
 rcases jT (P := Tryz.prog) w 165 3 1 r c es k .nilFunc (by kernel_rfl) (by kernel_rfl) hb (fun z hz => by obtain ⟨p, _, _, e, _⟩ := hq1 z hz; exact ⟨_, e⟩) hz with ⟨z, hz1, hz2, hrun⟩ | ⟨hno, hrun⟩
 ·obtain ⟨p, hp, _, hp2, hv⟩ := hq1 z hz1
  rw [hz2] at hp2
  injection hp2 with _ hp2
  exact .inl ⟨p.1, z.val, by rw [hp2]; exact hp, hv, hrun⟩
 ·refine .inr ⟨fun p hp hk => ?_, hrun⟩
  obtain ⟨z, hz1, hz2⟩ := hq2 p hp (hl p hp);exact hno z hz1 (by rw [hz2, hk])
theorem Lft.then' {M x B : Nat} {w w4 w5 w6 : World} (h : Lft [M] B w w4) (m : Below w4.heap.size w4 w5) (t : Lft [x] w5.heap.size w5 w6) (hx : B ≤ x) (hB : B ≤ w4.heap.size) : Lft [M] B w w6 :=
 ⟨t.os.trans (m.os.trans h.os), t.tape.trans (m.tape.trans h.tape), t.output.trans (m.output.trans h.output), Nat.le_trans h.size (Nat.le_trans m.size t.size), fun j hj hne => (t.block j (by have := m.size; omega) (by simp; omega)).trans ((m.block j (by omega)).trans (h.block j hj hne))⟩
theorem Lft.then2 {M b B : Nat} {w w8 w9 : World} (h : Lft [M] B w w8) (t : Lft [b, M] w8.heap.size w8 w9) (hb : B ≤ b) (hB : B ≤ w8.heap.size) : Lft [M] B w w9 :=
 ⟨t.os.trans h.os, t.tape.trans h.tape, t.output.trans h.output, Nat.le_trans h.size t.size, fun j hj hne => (t.block j (by omega) (by simp at hne ⊢; omega)).trans (h.block j hj hne)⟩
theorem rU (P : Nat → Prop) (el : El) (u : Value) (id : Int) (M : Nat) (w : World) (hM : w.heap[M]? = some (.cells (Mg.row { id := id }) 28 (0, 0))) (hk : bf P w u el.kids) (hs : SmE el) (hP : ∀ g, P g → g ≠ M) (hcn : ed el ≤ 1000000000) (h2 : el.tag ≠ 2) (h10 : el.tag ≠ 10) (h16 : el.tag ≠ 16) :
  Calls Tryz.prog 101 #[.pointer (some ⟨M, 0, none⟩), .agg (elA el u)] w fun e w' => Out (oOp id el) (fun y v w' => v = .tuple #[] ∧ MgO w.heap.size M y w') e w' ∧ Lft [M] w.heap.size w w' := by
 have hBl := (gl hM);obtain ⟨a, c, hf⟩ := hk.shape;subst hf;have b1 : Below w.heap.size w ((w.alloc (.cells #[.pointer (some ⟨M, 0, none⟩)] 126)).alloc (.cells (Er el a c) 45)) := ((aq _ _).alloc (ah _) _).alloc (by simp) _;have p1 : ((w.alloc (.cells #[.pointer (some ⟨M, 0, none⟩)] 126)).alloc (.cells (Er el a c) 45)).heap[w.heap.size]? = some (.cells #[.pointer (some ⟨M, 0, none⟩)] 126 (0, 0)) := (alloc_old _ _ _ (by simp)).trans (bi _ _ _ rfl);have r1 : ((w.alloc (.cells #[.pointer (some ⟨M, 0, none⟩)] 126)).alloc (.cells (Er el a c) 45)).heap[w.heap.size + 1]? = some (.cells (Er el a c) 45 (0, 0)) := bi _ _ _ (by simp);have m1 := (b1.block M hBl).trans hM;have k1 := hk.below b1;generalize hO : oOp id el = O;unfold oOp at hO;rw [if_neg h2, if_neg h10, if_neg h16] at hO;have HO := hid hO;unfold elA;clear hM hk hO
 go_enter Tryz.func101, Tryz.ntmps101
 refine wp_seq ?_;refine aQ ?_
 iterate 2 (refine aB rfl fun K hK => ?_; go_simp; refine hK _ _ ?_; clear hK K)
 generalize ((w.alloc (.cells #[.pointer (some ⟨M, 0, none⟩)] 126)).alloc (.cells (Er el a c) 45)) = w1 at b1 p1 r1 m1 k1 ⊢;have qp : w1.cell? ⟨w.heap.size, 0, none⟩ = some (.pointer (some ⟨M, 0, none⟩)) := (ad p1 0).trans rfl;have qt : w1.cell? ⟨w.heap.size + 1, 1, none⟩ = some (.int .i64 el.tag) := (ad r1 1).trans rfl;have q1 : w1.cell? ⟨M, 1, none⟩ = some (I0) := (ad m1 1).trans rfl;have z1 := aj m1 1;have m2 : (w1.setCell ⟨M, 1, none⟩ (.int .i64 el.tag)).heap[M]? = some (.cells (Mg.row { id := id, op := el.tag }) 28 (0, 0)) := bw (i := 1) (u := .int .i64 el.tag) m1;have t2 : Lft [M] w1.heap.size w1 (w1.setCell ⟨M, 1, none⟩ (.int .i64 el.tag)) := (Lft.refl w1).set _ _ _ (by simp);have p2 := t2.at p1 (by simp; omega);have r2 := t2.at r1 (by simp; omega);have k2 := k1.kept (Q := fun _ => True) (w' := w1.setCell ⟨M, 1, none⟩ (.int .i64 el.tag)) (fun g hg hl => ⟨t2.old hl (by simpa using hP g hg), trivial⟩);have l2 : Lft [M] w.heap.size w (w1.setCell ⟨M, 1, none⟩ (.int .i64 el.tag)) := (Lft.of b1).trans (t2.mono (ah _) fun _ _ h => h) (ah _);have hs1 := b1.size;have hs2 : w.heap.size + 2 ≤ (w1.setCell ⟨M, 1, none⟩ (.int .i64 el.tag)).heap.size := by have := (gl r1); simp; omega
 have M2 := hid m2;have P2 := hid p2;have R2 := hid r2;have L2 := hid l2;have K2 := hid k2;clear p1 r1 m1 b1 m2 p2 r2 l2 k1 k2 t2 hP;have i2 : (el.tag == 2) = false := aE h2;have i10 : (el.tag == 10) = false := aE h10;have i16 : (el.tag == 16) = false := aE h16
 go_wp2_with fail
 clear qp qt q1 z1;generalize w1.setCell ⟨M, 1, none⟩ (.int .i64 el.tag) = w2 at M2 P2 R2 L2 K2 hs2 ⊢;refine aR (S := fun w' => w'.heap[w.heap.size]? = some (.cells #[.pointer (some ⟨M, 0, none⟩)] 126 (0, 0)) ∧ w'.heap[w.heap.size + 1]? = some (.cells (Er el a c) 45 (0, 0)) ∧ w'.cell? ⟨M, 1, none⟩ = some (.int .i64 el.tag)) (by kernel_rfl) ?_;have T3 : w2.drew.heap[w.heap.size]? = some (.cells #[.pointer (some ⟨M, 0, none⟩)] 126 (0, 0)) ∧ w2.drew.heap[w.heap.size + 1]? = some (.cells (Er el a c) 45 (0, 0)) ∧ w2.drew.cell? ⟨M, 1, none⟩ = some (.int .i64 el.tag) := ⟨P2.out, R2.out, (ad M2.out 1).trans rfl⟩;have M3 : w2.drew.heap[M]? = some (.cells (Mg.row { id := id, op := el.tag }) 28 (0, 0)) := M2.out;have L3 : Lft [M] w.heap.size w w2.drew := L2.out.drew;have K3 := K2.out.below (aq _ w2).drew;have hs3 : w.heap.size + 2 ≤ w2.drew.heap.size := hs2
 change wpAnyH _ _ _ _ _ _ _ _ w2.drew
 clear M2 P2 R2 L2 K2 hs2;generalize w2.drew = w3 at T3 M3 L3 K3 hs3 ⊢;refine tn 0 (.agg (Er el a c)) rfl (fun w' hS => by exact cU 45 (.tmp 3) rfl (w.heap.size + 1) 45 _ (0, 0) (by rfl) hS.2.1 _ Tryz.underlying45 rfl (by rfl)) T3 ?_;refine tn 1 (.pointer (some ⟨M, 0, none⟩)) rfl (fun w' hS => by have q := (ad hS.1 0).trans (rfl : _ = some (Value.pointer (some ⟨M, 0, none⟩))); go_simp) T3 ?_;refine tp 2 ⟨M, 0, none⟩ rfl T3 ?_;refine tp 3 ⟨M, 1, none⟩ rfl T3 ?_;refine tn 4 (.int .i64 el.tag) rfl (fun w' hS => by have q := hS.2.2; go_simp) T3 ?_;refine fq 5 6 (by kernel_rfl) rfl (by rfl) rfl (by rfl) (fun K hK => ?P1) (fun K hK => ?P2)
 case' P1 =>
  have kc := dk el _ 1 el.tag w3 K3 hs;unfold elA at kc;go_simp; go_wp2_with fail
  refine ag kc ?_;rintro x w4 ⟨ho, hb⟩;have M4 := bk hb M3;have T4 : w4.heap[w.heap.size]? = some (.cells #[.pointer (some ⟨M, 0, none⟩)] 126 (0, 0)) ∧ w4.heap[w.heap.size + 1]? = some (.cells (Er el a c) 45 (0, 0)) ∧ w4.cell? ⟨M, 1, none⟩ = some (.int .i64 el.tag) := ⟨bk hb T3.1, bk hb T3.2.1, (ad M4 1).trans rfl⟩;have L4 : Lft [M] w.heap.size w w4 := L3.trans (.of hb) (by have := L3.size; omega);have hs4 := hb.size;clear kc hb M3 T3 L3 K3;replace HO := HO.out;generalize hks : ci el 1 el.tag = E at ho HO;rcases E with _|ks
  ·obtain ⟨rfl, rfl⟩ : x = Pn ∧ none = O := ⟨ho, HO⟩
   exact ⟨rfl, rfl, L4⟩
  obtain ⟨v, rfl, b, rfl, hbge, hrow⟩ := ho
  try simp only [ai] at HO
  replace HO := hid HO;have hck := ji hks;clear hks;refine hK _ _ T4 ?_; clear hK K
  have hb4 := hrow.lt;have m5 := alb w4 #[.pointer none] 123;have x5 := alz w4 #[.pointer none] 123;have q5 : (w4.alloc (.cells #[.pointer none] 123)).cell? ⟨w4.heap.size, 0, none⟩ = some (.pointer none) := (ad x5 0).trans rfl;have z5 := aj x5 0;have M5 := bk m5 M4;have T5 : (w4.alloc (.cells #[.pointer none] 123)).heap[w.heap.size]? = some (.cells #[.pointer (some ⟨M, 0, none⟩)] 126 (0, 0)) ∧ (w4.alloc (.cells #[.pointer none] 123)).heap[w.heap.size + 1]? = some (.cells (Er el a c) 45 (0, 0)) ∧ (w4.alloc (.cells #[.pointer none] 123)).cell? ⟨M, 1, none⟩ = some (.int .i64 el.tag) := ⟨bk m5 T4.1, bk m5 T4.2.1, (ad M5 1).trans rfl⟩;have t6 : Lft [w4.heap.size] (w4.alloc (.cells #[.pointer none] 123)).heap.size (w4.alloc (.cells #[.pointer none] 123)) ((w4.alloc (.cells #[.pointer none] 123)).setCell ⟨w4.heap.size, 0, none⟩ (.pointer (some ⟨b, 0, none⟩))) := (Lft.refl _).set _ _ _ (by simp);have x6 : ((w4.alloc (.cells #[.pointer none] 123)).setCell ⟨w4.heap.size, 0, none⟩ (.pointer (some ⟨b, 0, none⟩))).heap[w4.heap.size]? = some (.cells #[.pointer (some ⟨b, 0, none⟩)] 123 (0, 0)) := bw (i := 0) (u := .pointer (some ⟨b, 0, none⟩)) x5;have M6 := t6.at M5 (by simp; omega);have T6 : ((w4.alloc (.cells #[.pointer none] 123)).setCell ⟨w4.heap.size, 0, none⟩ (.pointer (some ⟨b, 0, none⟩))).heap[w.heap.size]? = some (.cells #[.pointer (some ⟨M, 0, none⟩)] 126 (0, 0)) ∧ ((w4.alloc (.cells #[.pointer none] 123)).setCell ⟨w4.heap.size, 0, none⟩ (.pointer (some ⟨b, 0, none⟩))).heap[w.heap.size + 1]? = some (.cells (Er el a c) 45 (0, 0)) ∧ ((w4.alloc (.cells #[.pointer none] 123)).setCell ⟨w4.heap.size, 0, none⟩ (.pointer (some ⟨b, 0, none⟩))).cell? ⟨M, 1, none⟩ = some (.int .i64 el.tag) := ⟨t6.at T5.1 (by simp; omega), t6.at T5.2.1 (by simp; omega), (ad M6 1).trans rfl⟩;have C6 : ClR w.heap.size w4.heap.size M b ((w4.alloc (.cells #[.pointer none] 123)).setCell ⟨w4.heap.size, 0, none⟩ (.pointer (some ⟨b, 0, none⟩))) := ⟨T6.1, x6⟩;have R6 := (hrow.shut.below m5).keep t6 (by simp; omega) (fun g hg _ => by have := hg.2; simp; omega);have L6 : Lft [M] w.heap.size w ((w4.alloc (.cells #[.pointer none] 123)).setCell ⟨w4.heap.size, 0, none⟩ (.pointer (some ⟨b, 0, none⟩))) := L4.then' m5 t6 (by omega) (by omega)
  have hbx : w4.heap.size ≠ b := by omega
  have hbw : w.heap.size + 2 ≤ b := by omega
  have hxw : w.heap.size + 2 ≤ w4.heap.size := by omega
  have hPP : ∀ g, ((w3.heap.size ≤ g ∧ g ≠ b) ∧ g < w4.heap.size) → w.heap.size + 2 ≤ g ∧ g ≠ b := fun g hg => ⟨by omega, hg.1.2⟩
  obtain ⟨PP, hPe⟩ : ∃ PP : Nat → Prop, (fun g => (w3.heap.size ≤ g ∧ g ≠ b) ∧ g < w4.heap.size) = PP := ⟨_, rfl⟩;have hPP : ∀ g, PP g → w.heap.size + 2 ≤ g ∧ g ≠ b := by rw [← hPe]; exact hPP
  rw [hPe] at R6;clear hPe;have hsz6 : w4.heap.size < ((w4.alloc (.cells #[.pointer none] 123)).setCell ⟨w4.heap.size, 0, none⟩ (.pointer (some ⟨b, 0, none⟩))).heap.size := by simp
  have hb6 : b < ((w4.alloc (.cells #[.pointer none] 123)).setCell ⟨w4.heap.size, 0, none⟩ (.pointer (some ⟨b, 0, none⟩))).heap.size := by simp; omega
  refine ao 6 rfl (fun K hK => ?_); go_simp; refine hK _ _ T5 ?_; clear hK K
  clear t6 x6 T5 M5 m5 x5 hrow M4 T4 L4;generalize (w4.alloc (.cells #[.pointer none] 123)) = w5 at q5 z5 T6 M6 C6 R6 L6 hsz6 hb6 ⊢;refine ao 7 rfl (fun K hK => ?_); go_simp; refine hK _ _ T6 ?_; clear hK K
  refine aV (by kernel_rfl) ?_ _;simp only [Exit.then];refine ‹∀ (a : Act) (w : World), Code.wp _ _ _ a w → _› _ _ ?_;obtain ⟨x6n, hx6n⟩ : ∃ x, w4.heap.size = x := ⟨_, rfl⟩;clear q5 z5;generalize (w5.setCell ⟨w4.heap.size, 0, none⟩ (.pointer (some ⟨b, 0, none⟩))) = w6 at T6 M6 C6 R6 L6 hsz6 hb6 ⊢;rw [hx6n] at C6 hsz6 hbx hxw ⊢;clear hx6n hbge hb4 hs4 hs3;have hmm : ∀ (t : TypeId) (w : World), (Instr.makeMap t none).run Tryz.prog w = .ok (.map (some w.heap.size)) (w.alloc (.map #[] 0)) := fun _ _ => rfl
  have hmf : ∀ (fn : Fn) (first cap : Array Value) (w : World), (Instr.makeFunc fn first cap).run Tryz.prog w = .ok (.func fn first cap) w := fun _ _ _ _ => rfl
  have hT : pc w.heap.size x6n (fun _ => false) w6.heap.size w6.heap.size w6 (w6.alloc (.map #[] 0)) := ⟨⟨#[], 0, bi _ _ _ rfl, fun z hz => by simp at hz, fun p _ q => by cases q⟩, (aq _ _).alloc (ah _) _, ah _⟩
 case' P2 =>
  have m4 := alb w3 #[.pointer none] 123;have x4 := alz w3 #[.pointer none] 123;have N3 := bk m4 M3;have U3 : (w3.alloc (.cells #[.pointer none] 123)).heap[w.heap.size]? = some (.cells #[.pointer (some ⟨M, 0, none⟩)] 126 (0, 0)) ∧ (w3.alloc (.cells #[.pointer none] 123)).heap[w.heap.size + 1]? = some (.cells (Er el a c) 45 (0, 0)) ∧ (w3.alloc (.cells #[.pointer none] 123)).cell? ⟨M, 1, none⟩ = some (.int .i64 el.tag) := ⟨bk m4 T3.1, bk m4 T3.2.1, (ad N3 1).trans rfl⟩;have J3 : Lft [M] w.heap.size w (w3.alloc (.cells #[.pointer none] 123)) := L3.trans (.of m4) (by omega);have K4 := K3.below m4;have hsx : (w3.alloc (.cells #[.pointer none] 123)).heap.size = w3.heap.size + 1 := by simp
  go_simp; refine hK _ _ U3 ?_; clear hK K
  obtain ⟨x6n, hx6n⟩ : ∃ x, w3.heap.size = x := ⟨_, rfl⟩;have hxw : w.heap.size + 2 ≤ w3.heap.size := hs3;rw [hx6n] at x4 hsx hxw ⊢;clear M3 T3 L3 K3 m4;generalize (w3.alloc (.cells #[.pointer none] 123)) = v3 at N3 U3 J3 K4 x4 hsx ⊢;clear hx6n hs3;have M3 := N3;have T3 := U3;have L3 := J3;clear N3 U3 J3;have kc := dk el _ 1 el.tag v3 K4 hs;unfold elA at kc;refine ao 5 rfl (fun K hK => ?_); go_simp; go_wp2_with fail
  refine ag kc ?_;rintro x w4 ⟨ho, hb⟩;have M4 := bk hb M3;have T4 : w4.heap[w.heap.size]? = some (.cells #[.pointer (some ⟨M, 0, none⟩)] 126 (0, 0)) ∧ w4.heap[w.heap.size + 1]? = some (.cells (Er el a c) 45 (0, 0)) ∧ w4.cell? ⟨M, 1, none⟩ = some (.int .i64 el.tag) := ⟨bk hb T3.1, bk hb T3.2.1, (ad M4 1).trans rfl⟩;have L4 : Lft [M] w.heap.size w w4 := L3.trans (.of hb) (by have := L3.size; omega);have hs4 := hb.size;have x4 := bk hb x4;clear kc hb M3 T3 L3 K4;replace HO := HO.out;generalize hks : ci el 1 el.tag = E at ho HO;rcases E with _|ks
  ·obtain ⟨rfl, rfl⟩ : x = Pn ∧ none = O := ⟨ho, HO⟩
   exact ⟨rfl, rfl, L4⟩
  obtain ⟨v, rfl, b, rfl, hbge, hrow⟩ := ho
  try simp only [ai] at HO
  replace HO := hid HO;have hck := ji hks;clear hks;refine hK _ _ T4 ?_; clear hK K
  have hb4 := hrow.lt;have q5 : w4.cell? ⟨x6n, 0, none⟩ = some (.pointer none) := (ad x4 0).trans rfl;have z5 := aj x4 0;have t6 : Lft [x6n] w4.heap.size w4 (w4.setCell ⟨x6n, 0, none⟩ (.pointer (some ⟨b, 0, none⟩))) := (Lft.refl _).set _ _ _ (by simp);have x6 : (w4.setCell ⟨x6n, 0, none⟩ (.pointer (some ⟨b, 0, none⟩))).heap[x6n]? = some (.cells #[.pointer (some ⟨b, 0, none⟩)] 123 (0, 0)) := bw (i := 0) (u := .pointer (some ⟨b, 0, none⟩)) x4;have M6 := t6.at M4 (by simp; omega);have T6 : (w4.setCell ⟨x6n, 0, none⟩ (.pointer (some ⟨b, 0, none⟩))).heap[w.heap.size]? = some (.cells #[.pointer (some ⟨M, 0, none⟩)] 126 (0, 0)) ∧ (w4.setCell ⟨x6n, 0, none⟩ (.pointer (some ⟨b, 0, none⟩))).heap[w.heap.size + 1]? = some (.cells (Er el a c) 45 (0, 0)) ∧ (w4.setCell ⟨x6n, 0, none⟩ (.pointer (some ⟨b, 0, none⟩))).cell? ⟨M, 1, none⟩ = some (.int .i64 el.tag) := ⟨t6.at T4.1 (by simp; omega), t6.at T4.2.1 (by simp; omega), (ad M6 1).trans rfl⟩;have C6 : ClR w.heap.size x6n M b (w4.setCell ⟨x6n, 0, none⟩ (.pointer (some ⟨b, 0, none⟩))) := ⟨T6.1, x6⟩;have R6 := hrow.keep t6 (by simp; omega) (fun g hg _ => by have := hg.1; simp; omega);have L6 : Lft [M] w.heap.size w (w4.setCell ⟨x6n, 0, none⟩ (.pointer (some ⟨b, 0, none⟩))) := L4.then' (aq _ _) t6 (by omega) (by omega)
  have hbx : x6n ≠ b := by omega
  have hbw : w.heap.size + 2 ≤ b := by omega
  have hPP : ∀ g, (v3.heap.size ≤ g ∧ g ≠ b) → w.heap.size + 2 ≤ g ∧ g ≠ b := fun g hg => ⟨by omega, hg.2⟩
  obtain ⟨PP, hPe⟩ : ∃ PP : Nat → Prop, (fun g => v3.heap.size ≤ g ∧ g ≠ b) = PP := ⟨_, rfl⟩;have hPP : ∀ g, PP g → w.heap.size + 2 ≤ g ∧ g ≠ b := by rw [← hPe]; exact hPP
  rw [hPe] at R6;clear hPe;refine ao 7 rfl (fun K hK => ?_); go_simp; refine hK _ _ T6 ?_; clear hK K
  refine aV (by kernel_rfl) ?_ _;simp only [Exit.then];refine ‹∀ (a : Act) (w : World), Code.wp _ _ _ a w → _› _ _ ?_;clear q5 z5 t6 x6 x4 hrow M4 T4 L4;have hsz6 : x6n < (w4.setCell ⟨x6n, 0, none⟩ (.pointer (some ⟨b, 0, none⟩))).heap.size := by simp; omega
  have hb6 : b < (w4.setCell ⟨x6n, 0, none⟩ (.pointer (some ⟨b, 0, none⟩))).heap.size := by simp; omega
  generalize (w4.setCell ⟨x6n, 0, none⟩ (.pointer (some ⟨b, 0, none⟩))) = w6 at T6 M6 C6 R6 L6 hsz6 hb6 ⊢;clear hbge hb4 hs4 hsx;have hmm : ∀ (t : TypeId) (w : World), (Instr.makeMap t none).run Tryz.prog w = .ok (.map (some w.heap.size)) (w.alloc (.map #[] 0)) := fun _ _ => rfl
  have hmf : ∀ (fn : Fn) (first cap : Array Value) (w : World), (Instr.makeFunc fn first cap).run Tryz.prog w = .ok (.func fn first cap) w := fun _ _ _ _ => rfl
  have hT : pc w.heap.size x6n (fun _ => false) w6.heap.size w6.heap.size w6 (w6.alloc (.map #[] 0)) := ⟨⟨#[], 0, bi _ _ _ rfl, fun z hz => by simp at hz, fun p _ q => by cases q⟩, (aq _ _).alloc (ah _) _, ah _⟩
 all_goals
  refine wp_seq ?_;refine aQ ?_;refine aB rfl fun K hK => ?_
  go_simp;refine hK _ _ ?_; clear hK K hmm
  generalize w6.alloc (.map #[] 0) = wm0 at hT ⊢;obtain ⟨r, hr⟩ : ∃ r, w6.heap.size = r := ⟨_, rfl⟩;have HR := hid hr;rw [hr] at hT ⊢;clear hr;refine aB rfl fun K hK => ?_; go_simp; refine hK _ _ ?_; clear hK K
  obtain ⟨wm1, hrun, hT⟩ := fK hT 0 0 (.func (.func 138) #[] #[.pointer (some ⟨w.heap.size, 0, none⟩), .pointer (some ⟨x6n, 0, none⟩)]) (by decide) (by rfl) rfl;refine aB rfl fun K hK => ?_
  go_simp;refine hK _ _ ?_; clear hK K hrun
  refine aB rfl fun K hK => ?_; go_simp; refine hK _ _ ?_; clear hK K
  obtain ⟨wm2, hrun, hT⟩ := fK hT 1 3 (.func (.func 140) #[] #[.pointer (some ⟨w.heap.size, 0, none⟩), .pointer (some ⟨x6n, 0, none⟩)]) (by decide) (by rfl) rfl;refine aB rfl fun K hK => ?_
  go_simp;refine hK _ _ ?_; clear hK K hrun
  refine aB rfl fun K hK => ?_; go_simp; refine hK _ _ ?_; clear hK K
  obtain ⟨wm3, hrun, hT⟩ := fK hT 2 6 (.func (.func 142) #[] #[.pointer (some ⟨x6n, 0, none⟩), .pointer (some ⟨w.heap.size, 0, none⟩)]) (by decide) (by rfl) rfl;refine aB rfl fun K hK => ?_
  go_simp;refine hK _ _ ?_; clear hK K hrun
  refine aB rfl fun K hK => ?_; go_simp; refine hK _ _ ?_; clear hK K
  obtain ⟨wm4, hrun, hT⟩ := fK hT 3 8 (.func (.func 145) #[] #[.pointer (some ⟨x6n, 0, none⟩), .pointer (some ⟨w.heap.size, 0, none⟩)]) (by decide) (by rfl) rfl;refine aB rfl fun K hK => ?_
  go_simp;refine hK _ _ ?_; clear hK K hrun
  refine aB rfl fun K hK => ?_; go_simp; refine hK _ _ ?_; clear hK K
  obtain ⟨wm5, hrun, hT⟩ := fK hT 4 4 (.func (.func 147) #[] #[.pointer (some ⟨x6n, 0, none⟩), .pointer (some ⟨w.heap.size, 0, none⟩)]) (by decide) (by rfl) rfl;refine aB rfl fun K hK => ?_
  go_simp;refine hK _ _ ?_; clear hK K hrun
  refine aB rfl fun K hK => ?_; go_simp; refine hK _ _ ?_; clear hK K
  obtain ⟨wm6, hrun, hT⟩ := fK hT 5 12 (.func (.func 148) #[] #[.pointer (some ⟨w.heap.size, 0, none⟩), .pointer (some ⟨x6n, 0, none⟩)]) (by decide) (by rfl) rfl;refine aB rfl fun K hK => ?_
  go_simp;refine hK _ _ ?_; clear hK K hrun
  refine aB rfl fun K hK => ?_; go_simp; refine hK _ _ ?_; clear hK K
  obtain ⟨wm7, hrun, hT⟩ := fK hT 6 14 (.func (.func 150) #[] #[.pointer (some ⟨w.heap.size, 0, none⟩), .pointer (some ⟨x6n, 0, none⟩)]) (by decide) (by rfl) rfl;refine aB rfl fun K hK => ?_
  go_simp;refine hK _ _ ?_; clear hK K hrun
  refine aB rfl fun K hK => ?_; go_simp; refine hK _ _ ?_; clear hK K
  obtain ⟨wm8, hrun, hT⟩ := fK hT 7 23 (.func (.func 152) #[] #[.pointer (some ⟨w.heap.size, 0, none⟩), .pointer (some ⟨x6n, 0, none⟩)]) (by decide) (by rfl) rfl;refine aB rfl fun K hK => ?_
  go_simp;refine hK _ _ ?_; clear hK K hrun
  obtain ⟨hma, b8, _⟩ := hT;have hfd := hma.found (by decide) el.tag;have b8 : Below w6.heap.size w6 wm8 := by rw [HR.out]; exact b8
  clear hma hmf HR;have T8 : wm8.heap[w.heap.size]? = some (.cells #[.pointer (some ⟨M, 0, none⟩)] 126 (0, 0)) ∧ wm8.heap[w.heap.size + 1]? = some (.cells (Er el a c) 45 (0, 0)) ∧ wm8.cell? ⟨M, 1, none⟩ = some (.int .i64 el.tag) := ⟨bk b8 T6.1, bk b8 T6.2.1, (ad (bk b8 M6) 1).trans rfl⟩;have M8 := bk b8 M6;have C8 : ClR w.heap.size x6n M b wm8 := C6.to (X := []) (.of b8) (by simp) (by simp);have R8 := R6.below b8;have L8 : Lft [M] w.heap.size w wm8 := L6.trans (.of b8) (by omega);have hs8 := b8.size;clear T6 M6 C6 R6 L6 b8;generalize wm8 = w8 at hfd T8 M8 C8 R8 L8 hs8 ⊢;have qp : w8.cell? ⟨w.heap.size, 0, none⟩ = some (.pointer (some ⟨M, 0, none⟩)) := (ad T8.1 0).trans rfl;have q1 := T8.2.2;have hne : b ≠ M := by omega
  have hnP : ∀ g, PP g → g ≠ M := fun g hg => by have := (hPP g hg).1; omega
  clear T8;rcases hfd with ⟨i, v, hik, hv, hrun⟩ | ⟨hno, hrun⟩
  ·obtain ⟨fn, cap, rfl, hcf, hcall⟩ := rQ hik PP b M w.heap.size x6n ks id w8 M8 hne hnP R8 C8 ⟨by omega, by omega⟩ ⟨by omega, hbx⟩ (by omega) i v hik hv
   have HCALL := hid hcall;clear hik hv R8 M8 hnP hcall
   go_wp2_with fail
   have kc := HCALL.out;clear HCALL hrun hcf q1 qp;refine ag kc ?_;rintro x w9 ⟨ho, hb⟩;have L9 : Lft [M] w.heap.size w w9 := L8.then2 hb (by omega) (by omega);have C9 := C8.to hb (by simp; omega) (by simp; omega);clear kc hb L8 C8;replace HO := HO.out;generalize oDo id el.tag ks = E at ho HO;rcases E with _|y
   ·obtain ⟨rfl, rfl⟩ : x = Pn ∧ none = O := ⟨ho, HO⟩
    exact ⟨rfl, rfl, L9⟩
   obtain ⟨v, rfl, rfl, ho9, hrow⟩ := ho
   try simp only [ai] at HO
   replace HO := hid HO;have q6 : w9.cell? ⟨x6n, 0, none⟩ = some (.pointer (some ⟨b, 0, none⟩)) := (ad C9.r 0).trans rfl;have hs9 := L9.size;have kc := cX _ b y.2 w9 hrow
   go_wp2_with fail
   refine ag kc ?_;rintro x w10 ⟨ho, hb⟩;have L10 : Lft [M] w.heap.size w w10 := L9.trans (.of hb) (by omega);have o10 := (ho9.to (X := []) (.of hb) (by simp) (by simp)).mono (B' := w.heap.size) (by omega);clear kc hb L9 ho9 hrow q6;replace HO := HO.out;rw [dJ] at HO;generalize bN () y.2 = E at ho HO;rcases E with _|uu
   ·obtain ⟨rfl, rfl⟩ : x = Pn ∧ none = O := ⟨ho, HO⟩
    exact ⟨rfl, rfl, L10⟩
   obtain ⟨v, rfl, rfl⟩ := ho
   try simp only [aw] at HO
   replace HO := hid HO
   go_wp2_with fail
   have hO := HO.out;subst hO
   first | go_end0 | (refine aH (v := .tuple #[]) (by simp [results, Tryz.f101]) rfl ?_)
   exact ⟨⟨_, rfl, rfl, o10⟩, L10⟩
  ·obtain ⟨B, hB⟩ : ∃ B, ez.contains el.tag = B := ⟨_, rfl⟩
   have hdo : oDo id el.tag ks = if B then dI id el.tag ks else none := by
    have hk : ∀ n, (n, el.tag) ∉ oTb := fun n hn => hno _ hn rfl
    simp only [oTb, aY, Prod.mk.injEq, aZ, or_false, not_or, not_and] at hk;have e0 : el.tag ≠ 0 := (hk 0).1 rfl;have e3 : el.tag ≠ 3 := (hk 1).2.1 rfl;have e6 : el.tag ≠ 6 := (hk 2).2.2.1 rfl;have e8 : el.tag ≠ 8 := (hk 3).2.2.2.1 rfl;have e4 : el.tag ≠ 4 := (hk 4).2.2.2.2.1 rfl;have e12 : el.tag ≠ 12 := (hk 5).2.2.2.2.2.1 rfl;have e14 : el.tag ≠ 14 := (hk 6).2.2.2.2.2.2.1 rfl;have e23 : el.tag ≠ 23 := (hk 7).2.2.2.2.2.2.2 rfl;unfold oDo;rw [if_neg e0, if_neg e3, if_neg e6, if_neg e8, if_neg e4, if_neg e12, if_neg e14, if_neg e23, hB]
   have hO := HO.out;clear HO;rw [hdo] at hO;have HO := hid hO;have ki := jp el.tag w8;rw [hB] at ki;clear hno hdo hB hO
   go_wp2_with fail
   refine ag ki ?_;rintro e w81 ⟨rfl, hbi⟩;have M8 := bk hbi M8;have C8 : ClR w.heap.size x6n M b w81 := C8.to (X := []) (.of hbi) (by simp) (by simp);have R8 := R8.below hbi;have L8 : Lft [M] w.heap.size w w81 := L8.trans (.of hbi) (by omega);have hs8 : w6.heap.size ≤ w81.heap.size := by have := hbi.size; omega
   have kw := cN B w81;clear ki hbi hrun q1 qp;cases B with
   | false =>
    have hO := HO.out;simp only [aW, if_false, ba] at hO
    go_wp2_with fail
    refine ag kw ?_;rintro e wz ⟨he, hwz⟩;obtain rfl := hwz.symm;subst hO;have he2 : e = Pn := he;subst he2;exact ⟨rfl, rfl, L8⟩
   | true =>
    have hO := HO.out;clear HO;rw [if_pos rfl] at hO;have HO := hid hO;clear hO;have hmf : ∀ (fn : Fn) (first cap : Array Value) (w : World), (Instr.makeFunc fn first cap).run Tryz.prog w = .ok (.func fn first cap) w := fun _ _ _ _ => rfl
    go_wp2_with fail
    refine ag kw ?_;rintro e wz ⟨⟨_, rfl, rfl⟩, hwz⟩;obtain rfl := hwz.symm
    go_wp2_with fail
    have kc := vT w.heap.size x6n M b w81 C8 (s8 PP b M ks id el.tag w81 M8 hne hnP R8);clear hmf kw R8 M8 hnP;refine ag kc ?_;rintro x w9 ⟨ho, hb⟩;have L9 : Lft [M] w.heap.size w w9 := L8.then2 hb (by omega) (by omega);have C9 := C8.to hb (by simp; omega) (by simp; omega);clear kc hb L8 C8;replace HO := HO.out;generalize dI id el.tag ks = E at ho HO;rcases E with _|y
    ·obtain ⟨rfl, rfl⟩ : x = Pn ∧ none = O := ⟨ho, HO⟩
     exact ⟨rfl, rfl, L9⟩
    obtain ⟨v, rfl, rfl, ho9, hrow⟩ := ho
    try simp only [ai] at HO
    replace HO := hid HO;have q6 : w9.cell? ⟨x6n, 0, none⟩ = some (.pointer (some ⟨b, 0, none⟩)) := (ad C9.r 0).trans rfl;have hs9 := L9.size;have kc := cX _ b y.2 w9 hrow
    go_wp2_with fail
    refine ag kc ?_;rintro x w10 ⟨ho, hb⟩;have L10 : Lft [M] w.heap.size w w10 := L9.trans (.of hb) (by omega);have o10 := (ho9.to (X := []) (.of hb) (by simp) (by simp)).mono (B' := w.heap.size) (by omega);clear kc hb L9 ho9 hrow q6;replace HO := HO.out;rw [dJ] at HO;generalize bN () y.2 = E at ho HO;rcases E with _|uu
    ·obtain ⟨rfl, rfl⟩ : x = Pn ∧ none = O := ⟨ho, HO⟩
     exact ⟨rfl, rfl, L10⟩
    obtain ⟨v, rfl, rfl⟩ := ho
    try simp only [aw] at HO
    replace HO := hid HO
    go_wp2_with fail
    have hO := HO.out;subst hO
    first | go_end0 | (refine aH (v := .tuple #[]) (by simp [results, Tryz.f101]) rfl ?_)
    exact ⟨⟨_, rfl, rfl, o10⟩, L10⟩
theorem rV (P : Nat → Prop) (el : El) (u : Value) (id : Int) (M : Nat) (w : World) (hM : w.heap[M]? = some (.cells (Mg.row { id := id }) 28 (0, 0))) (hk : bf P w u el.kids) (hs : SmE el) (hP : ∀ g, P g → g ≠ M) (hcn : ed el ≤ 1000000000) :
  Calls Tryz.prog 101 #[.pointer (some ⟨M, 0, none⟩), .agg (elA el u)] w fun e w' => Out (oOp id el) (fun y v w' => v = .tuple #[] ∧ MgO w.heap.size M y w') e w' ∧ Lft [M] w.heap.size w w' := by
 by_cases h2 : el.tag = 2
 ·exact rR P el u id M w hM hk hs hP hcn h2
 by_cases h10 : el.tag = 10
 ·exact rS P el u id M w hM hk hs hP hcn h10
 by_cases h16 : el.tag = 16
 ·exact mw P el u id M w hM hk hs hP hcn h16
 exact rU P el u id M w hM hk hs hP hcn h2 h10 h16
structure CtR (w : World) (b X : Nat) (cs : Array Value) (r : List El) (wx : World) : Prop where
 res : wx.heap[w.heap.size + 1]? = some (.cells #[Es, Bf, Bf, Es] 62 (0, 0))
 own : wx.heap[X]? = some (.cells cs 62 (0, 0))
 row : RowA (fun g => w.heap.size + 2 ≤ g ∧ g ≠ b ∧ g < X) b r wx
 bel : Below w.heap.size w wx
 lb : w.heap.size + 2 ≤ b
 lx : b < X
theorem CtR.next {w wx wy : World} {b X : Nat} {cs : Array Value} {r : List El} (h : CtR w b X cs r wx) (k : Lft [b] wx.heap.size wx wy) (r' : List El) (hr : RowA (fun g => w.heap.size + 2 ≤ g ∧ g ≠ b ∧ g < X) b r' wy) : CtR w b X cs r' wy := by
 obtain ⟨h1, h2, h3, h4, h5, h6⟩ := h;exact ⟨k.at h1 (by simp; omega), k.at h2 (by simp; omega), hr, h4.trans (k.below1 (by omega) h4.size), h5, h6⟩
theorem CtR.lftn {w wx wy : World} {b X : Nat} {cs : Array Value} {r : List El} (h : CtR w b X cs r wx) (k : Lft [b] wx.heap.size wx wy) : Below w.heap.size w wy := h.bel.trans (k.below1 (by have := h.lb; omega) h.bel.size)
theorem CtR.to {w wx wy : World} {b X : Nat} {cs : Array Value} {r : List El} (h : CtR w b X cs r wx) (k : Below wx.heap.size wx wy) : CtR w b X cs r wy :=
 ⟨bk k h.res, bk k h.own, h.row.below k, h.bel.trans (k.mono h.bel.size), h.lb, h.lx⟩
theorem CtR.set {w wx : World} {b X : Nat} {cs cs' : Array Value} {r : List El} (h : CtR w b X cs r wx) (k : Nat) (v : Value) (hc : cs.setIfInBounds k v = cs') : CtR w b X cs' r (wx.setCell ⟨X, k, none⟩ v) := by
 obtain ⟨h1, h2, h3, h4, h5, h6⟩ := h;have m : Lft [X] wx.heap.size wx (wx.setCell ⟨X, k, none⟩ v) := (Lft.refl wx).set _ _ _ (by simp);refine ⟨m.at h1 (by simp; omega), ?_, h3.keep m (by simp; omega) (fun g hg _ => by have := hg.2.2; simp; omega), h4.trans (m.below1 (by omega) h4.size), h5, h6⟩;rw [← hc];exact bw (i := k) (u := v) h2
theorem iW (el : El) (u : Value) (w : World) (h : bf (fun _ => True) w u el.kids) (hs : SmE el) :
  Calls Tryz.prog 104 #[.agg (elA el u)] w fun e w' => Out (eR el) (fun y v _ => v = .agg #[.string ⟨y.oid.toArray⟩, .bool y.crit, .bool y.has, .string ⟨y.value.toArray⟩]) e w' ∧ Below w.heap.size w w' := by
 obtain ⟨a, c, hf⟩ := h.shape;subst hf;have b1 : Below w.heap.size w ((w.alloc (.cells (Er el a c) 45)).alloc (.cells #[Es, Bf, Bf, Es] 62)) := ((aq _ _).alloc (ah _) _).alloc (by simp) _;have r1 : ((w.alloc (.cells (Er el a c) 45)).alloc (.cells #[Es, Bf, Bf, Es] 62)).heap[w.heap.size]? = some (.cells (Er el a c) 45 (0, 0)) := (alloc_old _ _ _ (by simp)).trans (bi _ _ _ rfl);have n1 : ((w.alloc (.cells (Er el a c) 45)).alloc (.cells #[Es, Bf, Bf, Es] 62)).heap[w.heap.size + 1]? = some (.cells #[Es, Bf, Bf, Es] 62 (0, 0)) := bi _ _ _ (by simp);have kc := dk el _ 0 16 ((w.alloc (.cells (Er el a c) 45)).alloc (.cells #[Es, Bf, Bf, Es] 62)) (h.below b1) hs;generalize hO : eR el = O;simp only [eR] at hO;have HO := hid hO;clear hO;unfold elA at kc ⊢;clear h hs
 go_enter Tryz.func104, Tryz.ntmps104
 go_upto_region 1 with fail
 generalize ((w.alloc (.cells (Er el a c) 45)).alloc (.cells #[Es, Bf, Bf, Es] 62)) = w1 at b1 r1 n1 kc ⊢;have hn1 := (gl n1)
 go_wp2_with (refine bg rfl 45 (.tmp 1) rfl w.heap.size 45 _ (0, 0) (by rfl) r1 _ Tryz.underlying45 rfl (by rfl) ?_)
 refine ag kc ?_;rintro x w2 ⟨ho, hb⟩;have b2 := b1.trans (hb.mono b1.size);have n2 := bk hb n1;have hs12 := hb.size;clear kc hb r1 n1 b1;replace HO := HO.out;generalize ci el 0 16 = E at ho HO;rcases E with _|ks
 ·obtain ⟨rfl, rfl⟩ : x = Pn ∧ none = O := ⟨ho, HO⟩
  exact ⟨rfl, rfl, b2⟩
 obtain ⟨v, rfl, b, rfl, hbge, hrow⟩ := ho
 try simp only [ai] at HO
 replace HO := hid HO;have kc := cQ _ b ks w2 hrow
 go_wp2_with fail
 refine ag kc ?_;rintro x w3 ⟨ho, hb⟩;have b3 := b2.trans (hb.below1 (B := w.heap.size) (by omega) b2.size);have n3 := hb.at n2 (by simp; omega);have hs23 := hb.size;clear kc hb n2 b2 hrow;replace HO := HO.out;generalize cg ks = E at ho HO;rcases E with _|t
 ·obtain ⟨rfl, rfl⟩ : x = Pn ∧ none = O := ⟨ho, HO⟩
  exact ⟨rfl, rfl, b3⟩
 obtain ⟨v, rfl, rfl, hrow⟩ := ho
 try simp only [ai] at HO
 replace HO := hid HO;have m4 := alb w3 #[.string ⟨t.1.toArray⟩, Bf, Bf, Es] 62;have h4 : CtR w b w3.heap.size #[.string ⟨t.1.toArray⟩, Bf, Bf, Es] t.2 (w3.alloc (.cells #[.string ⟨t.1.toArray⟩, Bf, Bf, Es] 62)) := ⟨bk m4 n3, bi _ _ _ rfl, (hrow.shut.mono (fun g hg => ⟨by omega, hg.1.2, hg.2⟩) (fun g hg => hg.2.1)).below m4, b3.trans (m4.mono b3.size), by omega, hrow.lt⟩;obtain ⟨X, hX⟩ : ∃ X, w3.heap.size = X := ⟨_, rfl⟩;have kc := iq _ b t.2 0 1 (w3.alloc (.cells #[.string ⟨t.1.toArray⟩, Bf, Bf, Es] 62)) h4.row;obtain ⟨B, hB⟩ : ∃ B, da 0 1 t.2 = B := ⟨_, rfl⟩;have hO := HO.out;clear HO;rw [hB] at kc hO;have HO := hid hO;clear hO hB m4 n3 b3 hrow
 go_wp2_with fail
 rw [hX] at h4;generalize (w3.alloc (.cells #[.string ⟨t.1.toArray⟩, Bf, Bf, Es] 62)) = w4 at h4 kc ⊢;clear hX;refine ag kc ?_;rintro x w5 ⟨rfl, hb⟩;have h5 := h4.to hb;clear kc hb h4;cases B with
 | false =>
  have hO := HO.out;clear HO;rw [if_neg (by simp)] at hO;simp only [ai] at hO;have HO := hid hO;clear hO;obtain ⟨ar, cr, qb⟩ := h5.row.cell;obtain ⟨T, hT⟩ : ∃ T, t.2 = T := ⟨_, rfl⟩;have hO := HO.out;clear HO;rw [hT] at hO h5 qb;clear hT;cases T with
  | nil =>
   simp only [if_true, ai] at hO;have HO := hid hO;clear hO;simp only [aU] at qb;have kc := cX _ b ([] : List El) w5 h5.row
   go_wp2_with fail
   refine ag kc ?_;rintro x wE ⟨ho, hb⟩;have hE := h5.to hb;have bE := hE.bel;clear kc hb h5;replace HO := HO.out;rw [dJ] at HO;generalize bN () ([] : List El) = E at ho HO;rcases E with _|uu
   ·obtain ⟨rfl, rfl⟩ : x = Pn ∧ none = O := ⟨ho, HO⟩
    exact ⟨rfl, rfl, bE⟩
   obtain ⟨v, rfl, rfl⟩ := ho
   try simp only [aw] at HO
   replace HO := hid HO;have m10 : Lft [w.heap.size + 1] wE.heap.size wE (wE.setRow (w.heap.size + 1) #[.string ⟨t.1.toArray⟩, Bf, Bf, Es]) := (Lft.refl wE).row _ _ (by simp);have B10 := hid (bE.trans (m10.below1 (B := w.heap.size) (by omega) bE.size));have N10 := hid (setRow_heap wE (w.heap.size + 1) _ #[.string ⟨t.1.toArray⟩, Bf, Bf, Es] _ _ hE.res);have xE := hE.own;have nE := hE.res;clear m10 bE hE
   go_wp2_with (first | (refine bg rfl 62 (.tmp 4) rfl X 62 _ (0, 0) (by rfl) xE _ Tryz.underlying62 rfl (by rfl) ?_) | (refine bh rfl 62 (.tmp 2) (.tmp 27) rfl (w.heap.size + 1) 62 _ #[.string ⟨t.1.toArray⟩, Bf, Bf, Es] (by rfl) (by rfl) nE (by rfl) (by rfl) (by simp [Value.oneCell']) ?_))
   have hO := HO.out;subst hO;refine aH (v := .agg #[.string ⟨t.1.toArray⟩, Bf, Bf, Es]) ?_ rfl ⟨⟨_, rfl, rfl⟩, B10.out⟩;have hr := aJ (P := Tryz.prog) _ (w.heap.size + 1) 62 62 #[.string ⟨t.1.toArray⟩, Bf, Bf, Es] (0, 0) _ N10.out (show Tryz.prog.underlying 62 = _ from Tryz.underlying62) (by rfl) (by rfl)
   simp [results, Tryz.f104]
   exact hr
  | cons e T =>
   simp only [List.cons_ne_nil, if_false] at hO;have HO := hid hO;clear hO;simp only [aG] at qb;have i1 : decide ((0 : Int) < (T.length : Int) + 1) = true := aA (by omega);have kc := cQ _ b (e :: T) w5 h5.row
   go_wp2_with fail
   refine ag kc ?_;rintro x w7 ⟨ho, hb⟩;have l7 := h5.lftn hb;have nx := h5.next hb;clear kc hb qb h5;replace HO := HO.out;generalize cg (e :: T) = E at ho HO;rcases E with _|y2
   ·obtain ⟨rfl, rfl⟩ : x = Pn ∧ none = O := ⟨ho, HO⟩
    exact ⟨rfl, rfl, l7⟩
   obtain ⟨v, rfl, rfl, hrow⟩ := ho
   try simp only [ai, aw] at HO
   replace HO := hid HO;have h7 := nx _ hrow;have q7 : w7.cell? ⟨X, 3, none⟩ = some (Es) := (ad h7.own 3).trans rfl;have z7 := aj h7.own 3;have h8 : CtR w b X #[.string ⟨t.1.toArray⟩, Bf, Bf, .string ⟨y2.1.toArray⟩] y2.2 (w7.setCell ⟨X, 3, none⟩ (.string ⟨y2.1.toArray⟩)) := h7.set 3 (.string ⟨y2.1.toArray⟩) rfl;have q8 : (w7.setCell ⟨X, 3, none⟩ (.string ⟨y2.1.toArray⟩)).cell? ⟨X, 2, none⟩ = some (Bf) := (ad h8.own 2).trans rfl;have z8 := aj h8.own 2;have h9 : CtR w b X #[.string ⟨t.1.toArray⟩, Bf, .bool true, .string ⟨y2.1.toArray⟩] y2.2 ((w7.setCell ⟨X, 3, none⟩ (.string ⟨y2.1.toArray⟩)).setCell ⟨X, 2, none⟩ (.bool true)) := h8.set 2 (.bool true) rfl;clear nx hrow l7 h7 h8;have kc := cX _ b y2.2 ((w7.setCell ⟨X, 3, none⟩ (.string ⟨y2.1.toArray⟩)).setCell ⟨X, 2, none⟩ (.bool true)) h9.row
   go_wp2_with fail
   refine ag kc ?_;rintro x wE ⟨ho, hb⟩;have hE := h9.to hb;have bE := hE.bel;clear kc hb h9;replace HO := HO.out;rw [dJ] at HO;generalize bN () y2.2 = E at ho HO;rcases E with _|uu
   ·obtain ⟨rfl, rfl⟩ : x = Pn ∧ none = O := ⟨ho, HO⟩
    exact ⟨rfl, rfl, bE⟩
   obtain ⟨v, rfl, rfl⟩ := ho
   try simp only [aw] at HO
   replace HO := hid HO;have m10 : Lft [w.heap.size + 1] wE.heap.size wE (wE.setRow (w.heap.size + 1) #[.string ⟨t.1.toArray⟩, Bf, .bool true, .string ⟨y2.1.toArray⟩]) := (Lft.refl wE).row _ _ (by simp);have B10 := hid (bE.trans (m10.below1 (B := w.heap.size) (by omega) bE.size));have N10 := hid (setRow_heap wE (w.heap.size + 1) _ #[.string ⟨t.1.toArray⟩, Bf, .bool true, .string ⟨y2.1.toArray⟩] _ _ hE.res);have xE := hE.own;have nE := hE.res;clear m10 bE hE
   go_wp2_with (first | (refine bg rfl 62 (.tmp 4) rfl X 62 _ (0, 0) (by rfl) xE _ Tryz.underlying62 rfl (by rfl) ?_) | (refine bh rfl 62 (.tmp 2) (.tmp 27) rfl (w.heap.size + 1) 62 _ #[.string ⟨t.1.toArray⟩, Bf, .bool true, .string ⟨y2.1.toArray⟩] (by rfl) (by rfl) nE (by rfl) (by rfl) (by simp [Value.oneCell']) ?_))
   have hO := HO.out;subst hO;refine aH (v := .agg #[.string ⟨t.1.toArray⟩, Bf, .bool true, .string ⟨y2.1.toArray⟩]) ?_ rfl ⟨⟨_, rfl, rfl⟩, B10.out⟩;have hr := aJ (P := Tryz.prog) _ (w.heap.size + 1) 62 62 #[.string ⟨t.1.toArray⟩, Bf, .bool true, .string ⟨y2.1.toArray⟩] (0, 0) _ N10.out (show Tryz.prog.underlying 62 = _ from Tryz.underlying62) (by rfl) (by rfl)
   simp [results, Tryz.f104]
   exact hr
 | true =>
  have hO := HO.out;clear HO;rw [if_pos rfl] at hO;have HO := hid hO;clear hO;have kc := jM _ b t.2 w5 h5.row
  go_wp2_with fail
  refine ag kc ?_;rintro x w6 ⟨ho, hb⟩;have l6 := h5.lftn hb;have nx := h5.next hb;clear kc hb h5;replace HO := HO.out;generalize fm t.2 = E at ho HO;rcases E with _|y
  ·obtain ⟨rfl, rfl⟩ : x = Pn ∧ none = O := ⟨ho, HO⟩
   exact ⟨rfl, rfl, l6⟩
  obtain ⟨v, rfl, rfl, hrow⟩ := ho
  try simp only [ai] at HO
  replace HO := hid HO;have h6 := nx _ hrow;have q6 : w6.cell? ⟨X, 1, none⟩ = some (Bf) := (ad h6.own 1).trans rfl;have z6 := aj h6.own 1;have h6s : CtR w b X #[.string ⟨t.1.toArray⟩, .bool y.1, Bf, Es] y.2 (w6.setCell ⟨X, 1, none⟩ (.bool y.1)) := h6.set 1 (.bool y.1) rfl;clear nx hrow l6 h6;obtain ⟨ar, cr, qb⟩ := h6s.row.cell;obtain ⟨T, hT⟩ : ∃ T, y.2 = T := ⟨_, rfl⟩;have hO := HO.out;clear HO;rw [hT] at hO h6s qb;clear hT;cases T with
  | nil =>
   simp only [if_true, ai] at hO;have HO := hid hO;clear hO;simp only [aU] at qb;have kc := cX _ b ([] : List El) (w6.setCell ⟨X, 1, none⟩ (.bool y.1)) h6s.row
   go_wp2_with fail
   refine ag kc ?_;rintro x wE ⟨ho, hb⟩;have hE := h6s.to hb;have bE := hE.bel;clear kc hb h6s;replace HO := HO.out;rw [dJ] at HO;generalize bN () ([] : List El) = E at ho HO;rcases E with _|uu
   ·obtain ⟨rfl, rfl⟩ : x = Pn ∧ none = O := ⟨ho, HO⟩
    exact ⟨rfl, rfl, bE⟩
   obtain ⟨v, rfl, rfl⟩ := ho
   try simp only [aw] at HO
   replace HO := hid HO;have m10 : Lft [w.heap.size + 1] wE.heap.size wE (wE.setRow (w.heap.size + 1) #[.string ⟨t.1.toArray⟩, .bool y.1, Bf, Es]) := (Lft.refl wE).row _ _ (by simp);have B10 := hid (bE.trans (m10.below1 (B := w.heap.size) (by omega) bE.size));have N10 := hid (setRow_heap wE (w.heap.size + 1) _ #[.string ⟨t.1.toArray⟩, .bool y.1, Bf, Es] _ _ hE.res);have xE := hE.own;have nE := hE.res;clear m10 bE hE
   go_wp2_with (first | (refine bg rfl 62 (.tmp 4) rfl X 62 _ (0, 0) (by rfl) xE _ Tryz.underlying62 rfl (by rfl) ?_) | (refine bh rfl 62 (.tmp 2) (.tmp 27) rfl (w.heap.size + 1) 62 _ #[.string ⟨t.1.toArray⟩, .bool y.1, Bf, Es] (by rfl) (by rfl) nE (by rfl) (by rfl) (by simp [Value.oneCell']) ?_))
   have hO := HO.out;subst hO;refine aH (v := .agg #[.string ⟨t.1.toArray⟩, .bool y.1, Bf, Es]) ?_ rfl ⟨⟨_, rfl, rfl⟩, B10.out⟩;have hr := aJ (P := Tryz.prog) _ (w.heap.size + 1) 62 62 #[.string ⟨t.1.toArray⟩, .bool y.1, Bf, Es] (0, 0) _ N10.out (show Tryz.prog.underlying 62 = _ from Tryz.underlying62) (by rfl) (by rfl)
   simp [results, Tryz.f104]
   exact hr
  | cons e T =>
   simp only [List.cons_ne_nil, if_false] at hO;have HO := hid hO;clear hO;simp only [aG] at qb;have i1 : decide ((0 : Int) < (T.length : Int) + 1) = true := aA (by omega);have kc := cQ _ b (e :: T) (w6.setCell ⟨X, 1, none⟩ (.bool y.1)) h6s.row
   go_wp2_with fail
   refine ag kc ?_;rintro x w7 ⟨ho, hb⟩;have l7 := h6s.lftn hb;have nx := h6s.next hb;clear kc hb qb h6s;replace HO := HO.out;generalize cg (e :: T) = E at ho HO;rcases E with _|y2
   ·obtain ⟨rfl, rfl⟩ : x = Pn ∧ none = O := ⟨ho, HO⟩
    exact ⟨rfl, rfl, l7⟩
   obtain ⟨v, rfl, rfl, hrow⟩ := ho
   try simp only [ai, aw] at HO
   replace HO := hid HO;have h7 := nx _ hrow;have q7 : w7.cell? ⟨X, 3, none⟩ = some (Es) := (ad h7.own 3).trans rfl;have z7 := aj h7.own 3;have h8 : CtR w b X #[.string ⟨t.1.toArray⟩, .bool y.1, Bf, .string ⟨y2.1.toArray⟩] y2.2 (w7.setCell ⟨X, 3, none⟩ (.string ⟨y2.1.toArray⟩)) := h7.set 3 (.string ⟨y2.1.toArray⟩) rfl;have q8 : (w7.setCell ⟨X, 3, none⟩ (.string ⟨y2.1.toArray⟩)).cell? ⟨X, 2, none⟩ = some (Bf) := (ad h8.own 2).trans rfl;have z8 := aj h8.own 2;have h9 : CtR w b X #[.string ⟨t.1.toArray⟩, .bool y.1, .bool true, .string ⟨y2.1.toArray⟩] y2.2 ((w7.setCell ⟨X, 3, none⟩ (.string ⟨y2.1.toArray⟩)).setCell ⟨X, 2, none⟩ (.bool true)) := h8.set 2 (.bool true) rfl;clear nx hrow l7 h7 h8;have kc := cX _ b y2.2 ((w7.setCell ⟨X, 3, none⟩ (.string ⟨y2.1.toArray⟩)).setCell ⟨X, 2, none⟩ (.bool true)) h9.row
   go_wp2_with fail
   refine ag kc ?_;rintro x wE ⟨ho, hb⟩;have hE := h9.to hb;have bE := hE.bel;clear kc hb h9;replace HO := HO.out;rw [dJ] at HO;generalize bN () y2.2 = E at ho HO;rcases E with _|uu
   ·obtain ⟨rfl, rfl⟩ : x = Pn ∧ none = O := ⟨ho, HO⟩
    exact ⟨rfl, rfl, bE⟩
   obtain ⟨v, rfl, rfl⟩ := ho
   try simp only [aw] at HO
   replace HO := hid HO;have m10 : Lft [w.heap.size + 1] wE.heap.size wE (wE.setRow (w.heap.size + 1) #[.string ⟨t.1.toArray⟩, .bool y.1, .bool true, .string ⟨y2.1.toArray⟩]) := (Lft.refl wE).row _ _ (by simp);have B10 := hid (bE.trans (m10.below1 (B := w.heap.size) (by omega) bE.size));have N10 := hid (setRow_heap wE (w.heap.size + 1) _ #[.string ⟨t.1.toArray⟩, .bool y.1, .bool true, .string ⟨y2.1.toArray⟩] _ _ hE.res);have xE := hE.own;have nE := hE.res;clear m10 bE hE
   go_wp2_with (first | (refine bg rfl 62 (.tmp 4) rfl X 62 _ (0, 0) (by rfl) xE _ Tryz.underlying62 rfl (by rfl) ?_) | (refine bh rfl 62 (.tmp 2) (.tmp 27) rfl (w.heap.size + 1) 62 _ #[.string ⟨t.1.toArray⟩, .bool y.1, .bool true, .string ⟨y2.1.toArray⟩] (by rfl) (by rfl) nE (by rfl) (by rfl) (by simp [Value.oneCell']) ?_))
   have hO := HO.out;subst hO;refine aH (v := .agg #[.string ⟨t.1.toArray⟩, .bool y.1, .bool true, .string ⟨y2.1.toArray⟩]) ?_ rfl ⟨⟨_, rfl, rfl⟩, B10.out⟩;have hr := aJ (P := Tryz.prog) _ (w.heap.size + 1) 62 62 #[.string ⟨t.1.toArray⟩, .bool y.1, .bool true, .string ⟨y2.1.toArray⟩] (0, 0) _ N10.out (show Tryz.prog.underlying 62 = _ from Tryz.underlying62) (by rfl) (by rfl)
   simp [results, Tryz.f104]
   exact hr
end Go.Proofs.YthjaiigijbjloaaGreatDoor
