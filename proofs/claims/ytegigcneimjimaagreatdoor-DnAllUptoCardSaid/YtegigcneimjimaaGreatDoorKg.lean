/- Blocks of a set may have been written, all others are as they were: rows of the call's own over such steps; a row that has grown, and the elder value that reads in it; lists whose blocks are distinct. -/
import Derived.Test.YtegigcneimjimaaGreatDoorBase
import Derived.Maps.AppendAt
import Derived.Deep.AppendLies
import Derived.Laws.OwnMore
import Derived.Deep.Draws
namespace Go.Proofs.YtegigcneimjimaaGreatDoor
open Go.RowKit Go.Lib

/-- All blocks but those of G are as they were. -/
structure KG (G : Nat → Prop) (w w' : World) : Prop where
  os : w'.os = w.os
  tape : w'.tape = w.tape
  output : w'.output = w.output
  size : w.heap.size ≤ w'.heap.size
  block : ∀ k, k < w.heap.size → ¬ G k → w'.heap[k]? = w.heap[k]?
theorem KG.refl (G : Nat → Prop) (w : World) : KG G w w := ⟨rfl, rfl, rfl, Nat.le_refl _, fun _ _ _ => rfl⟩
theorem KG.trans {G : Nat → Prop} {a b c : World} (h : KG G a b) (k : KG G b c) : KG G a c :=
  ⟨k.os.trans h.os, k.tape.trans h.tape, k.output.trans h.output, Nat.le_trans h.size k.size, fun i hi hn => (k.block i (Nat.lt_of_lt_of_le hi h.size) hn).trans (h.block i hi hn)⟩
theorem KG.mono {G G' : Nat → Prop} {w w' : World} (h : KG G w w') (hG : ∀ k, k < w.heap.size → G k → G' k) : KG G' w w' :=
  ⟨h.os, h.tape, h.output, h.size, fun k hk hn => h.block k hk (fun hg => hn (hG k hk hg))⟩
theorem KG.of_below {G : Nat → Prop} {w w' : World} (h : Below w.heap.size w w') : KG G w w' := ⟨h.os, h.tape, h.output, h.size, fun k hk _ => h.block k hk⟩
theorem KG.ext {G : Nat → Prop} {a b c : World} (h : KG G a b) (k : Below b.heap.size b c) : KG G a c := h.trans (KG.of_below k)
theorem KG.below {G : Nat → Prop} {w w' : World} {B : Nat} (h : KG G w w') (hG : ∀ k, G k → B ≤ k) (hB : B ≤ w.heap.size) : Below B w w' :=
  ⟨h.os, h.tape, h.output, h.size, fun k hk => h.block k (by omega) (fun hg => by have := hG k hg; omega)⟩
theorem KG.grown {G : Nat → Prop} {w wr w' : World} {row : Option Nat} (h : KG G w wr) (hg : wr.grownBy w' row) (hr : ∀ k, row = some k → G k ∨ w.heap.size ≤ k) : KG G w w' :=
  ⟨hg.os.trans h.os, hg.tape.trans h.tape, hg.output.trans h.output, Nat.le_trans h.size hg.size, fun k hk hn =>
    (hg.block k (Nat.lt_of_lt_of_le hk h.size) (fun e => by rcases hr k e.symm with h' | h' <;> first | exact hn h' | omega)).trans (h.block k hk hn)⟩
theorem KG.set {G : Nat → Prop} {w wr : World} (h : KG G w wr) (p : Addr) (v : Value) (hp : G p.block ∨ w.heap.size ≤ p.block) : KG G w (wr.setCell p v) :=
  ⟨h.os, h.tape, h.output, by have := h.size; simpa [World.setCell] using this, fun k hk hn =>
    (Below.heap_setCell wr p v k (fun e => by subst e; rcases hp with h' | h' <;> first | exact hn h' | omega)).trans (h.block k hk hn)⟩
theorem KG.alloc {G : Nat → Prop} {w wr : World} (h : KG G w wr) (o : Obj) : KG G w (wr.alloc o) := h.ext ((Below.refl _ _).alloc (Nat.le_refl _) o)
theorem KG.drew {G : Nat → Prop} {w wr : World} (h : KG G w wr) : KG G w wr.drew := ⟨h.os, h.tape, h.output, h.size, h.block⟩
theorem KG.drewN {G : Nat → Prop} {w wr : World} (h : KG G w wr) (n : Nat) : KG G w (wr.drewN n) := ⟨h.os, h.tape, h.output, h.size, h.block⟩
theorem KG.cell {G : Nat → Prop} {w w' : World} (h : KG G w w') {p : Addr} (hp : p.block < w.heap.size) (hn : ¬ G p.block) : w'.cell? p = w.cell? p := World.cell?_of_block (w := w) (h.block _ hp hn)
theorem KG.own {G : Nat → Prop} {w w' : World} (h : KG G w w') {B e size n : Nat} {v : Value} {xs : List Value} (ho : w.ownsRow B e size v n xs) (hn : ∀ k, v.ownBlock = some k → ¬ G k) : w'.ownsRow B e size v n xs := by
  refine ⟨ho.1, ?_⟩
  rcases ho.2 with hz | ⟨g, cap, cur, rfl, hb, hg, r⟩
  · exact .inl hz
  · exact .inr ⟨g, cap, cur, rfl, hb, (h.block g (Array.getElem?_eq_some_iff.1 hg).1 (hn g rfl)).trans hg, r⟩
/-- The element type of a block. -/
def Ty (w : World) (k : Nat) (t : TypeId) : Prop := ∃ cs fr, w.heap[k]? = some (.cells cs t fr)
theorem Ty.eq {w : World} {k : Nat} {t u : TypeId} (h : Ty w k t) (h' : Ty w k u) : t = u := by
  obtain ⟨_, _, h⟩ := h
  obtain ⟨_, _, h'⟩ := h'
  rw [h] at h'
  cases h'
  rfl
theorem own_ty {w : World} {B e size n : Nat} {v : Value} {xs : List Value} (h : w.ownsRow B e size v n xs) {k : Nat} (hk : v.ownBlock = some k) : Ty w k e := by
  rcases h.2 with ⟨rfl, _⟩ | ⟨g, cap, cur, rfl, _, hg, _⟩
  · cases hk
  · cases hk; exact ⟨_, _, hg⟩
theorem ownMono {w : World} {B B' e size n : Nat} {v : Value} {xs : List Value} (h : w.ownsRow B e size v n xs) (hB : B' ≤ B) : w.ownsRow B' e size v n xs := by
  refine ⟨h.1, ?_⟩
  rcases h.2 with hz | ⟨g, cap, cur, rfl, hb, r⟩
  · exact .inl hz
  · exact .inr ⟨g, cap, cur, rfl, Nat.le_trans hB hb, r⟩
theorem ownBelow {w w' : World} {B e size n : Nat} {v : Value} {xs : List Value} (h : w.ownsRow B e size v n xs) (hb : Below w.heap.size w w') : w'.ownsRow B e size v n xs :=
  (KG.of_below (G := fun _ => False) hb).own h (fun _ _ h => h)
/-- Lists no two of which lie in one block. -/
def Sep (vs : List Value) : Prop := ∀ (i j : Nat) (u v : Value) (k : Nat), i ≠ j → vs[i]? = some u → vs[j]? = some v → u.ownBlock = some k → v.ownBlock ≠ some k
theorem Sep.nil : Sep [] := fun i j u v k _ h => by simp at h
theorem Sep.snoc {vs : List Value} {v : Value} (h : Sep vs) (hv : ∀ u ∈ vs, ∀ k, u.ownBlock = some k → v.ownBlock ≠ some k) : Sep (vs ++ [v]) := by
  intro i j x y k hne hi hj hx hy
  rcases Nat.lt_or_ge i vs.length with h1 | h1
  · rw [List.getElem?_append_left h1] at hi
    rcases Nat.lt_or_ge j vs.length with h2 | h2
    · rw [List.getElem?_append_left h2] at hj
      exact h i j x y k hne hi hj hx hy
    · rw [List.getElem?_append_right h2] at hj
      have : y = v := by
        cases hz : j - vs.length with
        | zero => rw [hz] at hj; simpa using hj.symm
        | succ n => rw [hz] at hj; simp at hj
      subst this
      exact hv x (List.mem_of_getElem? hi) k hx hy
  · rw [List.getElem?_append_right h1] at hi
    have hxv : x = v := by
      cases hz : i - vs.length with
      | zero => rw [hz] at hi; simpa using hi.symm
      | succ n => rw [hz] at hi; simp at hi
    have hin : i = vs.length := by
      have := (List.getElem?_eq_some_iff.1 hi).1
      simp at this
      omega
    subst hxv
    have h2 : j < vs.length := by
      have := (List.getElem?_eq_some_iff.1 hj).1
      simp at this
      omega
    rw [List.getElem?_append_left h2] at hj
    exact hv y (List.mem_of_getElem? hj) k hy hx
/-- append: the row that has grown, and the elder value, which still reads in its own row. -/
theorem run_append_both {P : Program} (w : World) (base : Nat) (t ty e : TypeId) (i : TypeInfo) (z : Value) (size bytes : Nat) (ht : P.underlying t = some (.slice e)) (hi : P.info? e = some i) (hz : i.zero = some z)
    (hsize : i.size = size) (hby : i.bytes = bytes) (hzs : z.cells.size = size) (hsz : 0 < size)
    (v : Value) (n : Nat) (xs : List Value) (hown : w.ownsRow base e size v n xs)
    (a : Addr) (m c : Nat) (news : List Value) (hl : news.length = m * size) (hnews : ∀ j u, news[j]? = some u → w.cell? (a.add j) = some u) (h1 : ∀ u ∈ news, u.oneCell' = true)
    (h63 : n + m ≤ maxLen) (hbytes : (n + m) * bytes ≤ 140737488355328) (hbase : base ≤ w.heap.size) :
    ∃ v' w', (Builtin.append_ #[t, t] ty #[v, .slice (some a) m c]).run P w = .ok v' w' ∧ w'.ownsRow base e size v' (n + m) (xs ++ news) ∧ w.grownBy w' v.ownBlock ∧
      (v'.ownBlock = v.ownBlock ∨ v'.ownBlock = some w.heap.size) ∧ w'.ownsRow base e size v n xs := by
  obtain ⟨v', w', hr, h2, h3, _, h5⟩ := run_append_own_at (P := P) w base t ty e i z size bytes ht hi hz hsize hby hzs hsz v n xs hown a m c news hl hnews h1 h63 hbytes hbase
  refine ⟨v', w', hr, h2, h3, h5, ?_⟩
  subst hsize
  subst hby
  have hsmall : n + m ≤ 9223372036854775807 := by simp only [maxLen] at h63; omega
  refine ⟨hown.1, ?_⟩
  rcases hown.2 with ⟨rfl, rfl⟩ | ⟨g, cap, cur, rfl, hbg, hg, hnc, hcm, hcs, htake⟩
  · exact .inl ⟨rfl, rfl⟩
  · by_cases hroom : n + m ≤ cap
    · have hfit : n * i.size + news.length ≤ cur.size := by rw [hl, hcs, ← Nat.add_mul]; exact Nat.mul_le_mul_right _ hroom
      have hr2 := run_append_room (P := P) w t ty e i ht hi g n cap cur hg a m c news hl hnews h1 hroom hfit
      rw [hr] at hr2
      cases hr2
      refine .inr ⟨g, cap, _, rfl, hbg, setRow_heap w g cur _ e _ hg, hnc, hcm, ?_, ?_⟩
      · simp only [List.size_toArray, List.length_append, List.length_take, List.length_drop, Array.length_toList]
        omega
      · rw [htake, List.append_assoc, ← hown.1]
        exact List.take_left
    · have holds : ∀ j u, xs[j]? = some u → w.cell? ((⟨g, 0, none⟩ : Addr).add j) = some u := hown.cells (g := g) rfl
      have hr2 := run_append_grow (P := P) w t ty e i z ht hi hz ⟨g, 0, none⟩ n cap xs hown.1 holds a m c news hl hnews (by omega) (by omega) (growslice_fits (by omega) hbytes)
      rw [hr] at hr2
      cases hr2
      exact .inr ⟨g, cap, cur, rfl, hbg, (Lib.alloc_old w.drew _ g (Array.getElem?_eq_some_iff.1 hg).1).trans hg, hnc, hcm, hcs, htake⟩
theorem wpList_append_both {P : Program} {w : World} {ops : Array Oper} {rest : List Oper} {o : Oper} {a : Act} {Q : Exit → Act → World → Prop} (hgd : o.guard = none) (s x : Operand) (t : TypeId)
    (ho : o.op = .call { callee := .builtin .append, args := #[s, x], argTypes := #[t, t] })
    (base : Nat) (e : TypeId) (i : TypeInfo) (z : Value) (size bytes : Nat) (ht : P.underlying t = some (.slice e)) (hi : P.info? e = some i) (hz : i.zero = some z)
    (hsize : i.size = size) (hby : i.bytes = bytes) (hzs : z.cells.size = size) (hsz : 0 < size)
    (v : Value) (n : Nat) (xs : List Value) (hs : a.eval s = v) (hown : w.ownsRow base e size v n xs)
    (ad : Addr) (m c : Nat) (news : List Value) (hx : a.eval x = .slice (some ad) m c) (hl : news.length = m * size) (hnews : ∀ j u, news[j]? = some u → w.cell? (ad.add j) = some u) (h1 : ∀ u ∈ news, u.oneCell' = true)
    (h63 : n + m ≤ maxLen) (hbytes : (n + m) * bytes ≤ 140737488355328) (hbase : base ≤ w.heap.size)
    (h : ∀ v' w', w'.ownsRow base e size v' (n + m) (xs ++ news) → w.grownBy w' v.ownBlock → (v'.ownBlock = v.ownBlock ∨ v'.ownBlock = some w.heap.size) → w'.ownsRow base e size v n xs → wpList P ops Q rest (a.put o.dst v') w') :
    wpList P ops Q (o :: rest) a w := by
  refine wpList_plain hgd fun K hK => ?_
  obtain ⟨v', w', hr, h2, h3, h4, h5⟩ := run_append_both (P := P) w base t o.type e i z size bytes ht hi hz hsize hby hzs hsz v n xs hown ad m c news hl hnews h1 h63 hbytes hbase
  unfold Oper.wp execOp
  simp only [ho, resolve, invoke, builtin, Sem.run_bind, Sem.run_pure, Result.andThen_ok, List.map_toArray, List.map_cons, List.map_nil, hs, hx, hr]
  exact hK _ _ (h v' w' h2 h3 h4 h5)
end Go.Proofs.YtegigcneimjimaaGreatDoor
