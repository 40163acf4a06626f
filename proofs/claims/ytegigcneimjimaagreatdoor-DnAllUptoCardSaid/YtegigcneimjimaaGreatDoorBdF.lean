/- chancerybook: what stays, and what is put. -/
import Derived.Test.YtegigcneimjimaaGreatDoorBdC
import Derived.StillTailTactics
namespace Go.Proofs.YtegigcneimjimaaGreatDoor
open Go.RowKit Go.Lib

theorem AvsAt.drewN {w : World} {v : Value} {r : List Av} (h : AvsAt w v r) (m : Nat) : AvsAt (w.drewN m) v r := h
theorem DnAt.drewN {w : World} {v : Value} {d : List (List Av)} (h : DnAt w v d) (m : Nat) : DnAt (w.drewN m) v d := h
set_option maxRecDepth 100000 in
set_option maxHeartbeats 4000000 in
theorem SRdns_any (v u : Value) (r q : List (List Av)) (w : World) (h1 : DnAt w v r) (h2 : DnAt w u q) (hl : r.length ≤ 1000000) (_hl2 : q.length ≤ 1000000) (hr : ∀ x ∈ r, x.length ≤ 1000000) (hq : ∀ x ∈ q, x.length ≤ 1000000) :
    Calls Tryz.prog 169 #[v, u] w fun e w' => e = .returned (.bool (decide (r = q))) ∧ ∃ m, w' = w.drewN m := by
  have H1 := Lib.hid h1
  have H2 := Lib.hid h2
  have H3 := Lib.hid hr
  have H4 := Lib.hid hq
  clear hr hq
  obtain ⟨a1, c1, rfl, hc1, hx1⟩ := h1
  obtain ⟨a2, c2, rfl, hc2, hx2⟩ := h2
  clear hx1 hx2
  by_cases hlen : r.length = q.length
  · have hq : ((r.length : Int) == (q.length : Int)) = true := by rw [beqN]; simpa using hlen
    have hq2 : ((r.length : Int) != (q.length : Int)) = false := by rw [bne, hq]; rfl
    have HL := Lib.hid hlen
    obtain ⟨ANS, hA⟩ : ∃ ANS, decide (r = q) = ANS := ⟨_, rfl⟩
    rw [hA]
    have HA := Lib.hid hA
    clear hA hlen
    go_enter Tryz.func169, Tryz.ntmps169
    go_wp2_with fail
    go_loopw [5] (fun i wr => ∃ k m : Nat, i = .int .i64 (k : Int) ∧ k ≤ r.length ∧ wr = w.drewN m ∧ decide (r.drop k = q.drop k) = ANS) (fun i _ => r.length - (RowKit.intOf i).toNat)
    case atStart => exact ⟨0, 0, rfl, by omega, rfl, HA.out⟩
    case round =>
      obtain ⟨k, m, rfl, hk, rfl, hans⟩ := hrel
      clear HA hq hq2
      have hlen := HL.out
      by_cases hkl : k < r.length
      · have hkl2 : k < q.length := by omega
        obtain ⟨x, hx⟩ : ∃ x, r[k] = x := ⟨_, rfl⟩
        obtain ⟨y, hy⟩ : ∃ y, q[k] = y := ⟨_, rfl⟩
        have hxk : r[k]? = some x := by rw [List.getElem?_eq_getElem hkl, hx]
        have hyk : q[k]? = some y := by rw [List.getElem?_eq_getElem hkl2, hy]
        have hr0 : r ≠ [] := by intro e; rw [e] at hkl; simp at hkl
        have hq0 : q ≠ [] := by intro e; rw [e] at hkl2; simp at hkl2
        rw [List.drop_eq_getElem_cons hkl, hx, List.drop_eq_getElem_cons hkl2, hy] at hans
        obtain ⟨a3, cap3, e3, _, hcell⟩ := H1.out
        obtain ⟨g, o, ha, hcc⟩ := hcell hr0
        obtain ⟨a4, cap4, e4, _, hcell4⟩ := H2.out
        obtain ⟨g', o', ha', hcc'⟩ := hcell4 hq0
        cases e3
        cases e4
        subst ha ha'
        have hxl := H3.out x (List.mem_of_getElem? hxk)
        have hyl := H4.out y (List.mem_of_getElem? hyk)
        obtain ⟨z1, p1, p2⟩ := hcc k x hxk
        obtain ⟨z2, p3, p4⟩ := hcc' k y hyk
        clear hcc hcell hcc' hcell4 hxk hyk hx hy hr0 hq0 hlen
        have i1 : (k : Int) < (r.length : Int) := by omega
        have i2 : (k : Int) < (q.length : Int) := by omega
        have i3 : decide ((k : Int) < (r.length : Int)) = true := decide_eq_true i1
        have ks := fun a => (SAvas_any z1 z2 x y (w.drewN (m + a)) (p2.drewN _) (p4.drewN _) hxl hyl).mono (fun e w'' h => (show e = .returned (.bool (decide (x = y))) ∧ ∃ n, w'' = w.drewN (m + n) from ⟨h.1, h.2.elim fun n hn => ⟨a + n, by rw [hn, World.drewN_drewN, Nat.add_assoc]⟩⟩))
        obtain ⟨b1, d1, e5, _, _⟩ := p2
        obtain ⟨b2, d2, e6, _, _⟩ := p4
        subst e5 e6
        by_cases hxy : x = y
        · subst hxy
          rw [decide_eq_true rfl] at ks
          have hans2 : decide (r.drop (k + 1) = q.drop (k + 1)) = ANS := by rw [← hans]; exact decide_eq_decide.2 (by simp)
          have HS := Lib.hid hans2
          clear hans hans2
          go_wp2
          go_quiet (exact ks _)
          go_wp2
          exact ⟨⟨k + 1, _, by go_num, by omega, rfl, HS.out⟩, by simp [RowKit.intOf]; omega⟩
        · have e : ANS = false := by rw [← hans]; exact decide_eq_false (fun e => hxy (List.cons.inj e).1)
          subst e
          rw [decide_eq_false hxy] at ks
          clear hans hxy
          go_wp2
          go_quiet (exact ks _)
          go_wp2
          go_ret
          first | exact ⟨rfl, _, rfl⟩ | exact ⟨rfl, _, World.drewN_drewN _ _ _⟩
      · obtain rfl : k = r.length := by omega
        have e : ANS = true := by rw [← hans, List.drop_of_length_le (Nat.le_refl _), hlen, List.drop_of_length_le (Nat.le_refl _)]; rfl
        subst e
        have i3 : decide (((r.length : Nat) : Int) < (r.length : Int)) = false := decide_eq_false (by omega)
        clear hlen hans
        go_wp2_with fail
        go_ret
        exact ⟨rfl, _, rfl⟩
  · have hq : ((r.length : Int) == (q.length : Int)) = false := by rw [beqN]; simpa using hlen
    have hq2 : ((r.length : Int) != (q.length : Int)) = true := by rw [bne, hq]; rfl
    have e : decide (r = q) = false := decide_eq_false (fun e => hlen (by rw [e]))
    rw [e]
    clear hlen e
    go_enter Tryz.func169, Tryz.ntmps169
    go_wp2_with fail
    go_ret
    exact ⟨rfl, 0, rfl⟩
/-- The book's fields: all nil but those of pairs and of parts. -/
def bkRow (a b c d : Value) : Array Value := List.toArray (.slice none 0 0 :: .slice none 0 0 :: .slice none 0 0 :: .slice none 0 0 :: .slice none 0 0 :: .slice none 0 0 :: .slice none 0 0 :: .slice none 0 0 :: .slice none 0 0 :: .slice none 0 0 :: .slice none 0 0 :: .slice none 0 0 :: .slice none 0 0 :: .slice none 0 0 :: .slice none 0 0 :: .slice none 0 0 ::
  a :: b :: c :: d :: .slice none 0 0 :: .slice none 0 0 :: .slice none 0 0 :: .slice none 0 0 :: .slice none 0 0 :: .slice none 0 0 :: .slice none 0 0 :: .slice none 0 0 :: .slice none 0 0 :: .slice none 0 0 :: .slice none 0 0 :: .slice none 0 0 :: .slice none 0 0 :: .slice none 0 0 :: .slice none 0 0 :: .slice none 0 0 :: [])
def BkAt (w : World) (p : Nat) (a b c d : Value) : Prop := w.heap[p]? = some (.cells (bkRow a b c d) 43 (0, 0))
theorem BkAt.lt {w : World} {p : Nat} {a b c d : Value} (h : BkAt w p a b c d) : p < w.heap.size := (Array.getElem?_eq_some_iff.1 h).1
theorem BkAt.below {w w' : World} {p : Nat} {a b c d : Value} (h : BkAt w p a b c d) (hb : Below w.heap.size w w') : BkAt w' p a b c d := (hb.block p h.lt).trans h
theorem BkAt.kg {G : Nat → Prop} {w w' : World} {p : Nat} {a b c d : Value} (h : BkAt w p a b c d) (hk : KG G w w') (hn : ¬ G p) : BkAt w' p a b c d := (hk.block p h.lt hn).trans h
theorem BkAt.ty {w : World} {p : Nat} {a b c d : Value} (h : BkAt w p a b c d) : Ty w p 43 := ⟨_, _, h⟩
theorem BkAt.cells {w : World} {p : Nat} {a b c d : Value} (h : BkAt w p a b c d) : w.cell? ⟨p, 16, none⟩ = some a ∧ w.cell? ⟨p, 17, none⟩ = some b ∧ w.cell? ⟨p, 18, none⟩ = some c ∧ w.cell? ⟨p, 19, none⟩ = some d :=
  ⟨by rw [Lib.cell_of_heap h]; rfl, by rw [Lib.cell_of_heap h]; rfl, by rw [Lib.cell_of_heap h]; rfl, by rw [Lib.cell_of_heap h]; rfl⟩
theorem BkAt.frozen {w : World} {p : Nat} {a b c d : Value} (h : BkAt w p a b c d) (i : Nat) : w.frozen? ⟨p, i, none⟩ = false := Lib.frozen_of_heap h i
/-- A row of lists reads so. -/
theorem own_at {w : World} {B e n i : Nat} {v u : Value} {xs : List Value} (h : w.ownsRow B e 1 v n xs) (hi : xs[i]? = some u) : ∃ g cap, v = .slice (some ⟨g, 0, none⟩) n cap ∧ w.cell? ⟨g, i, none⟩ = some u := by
  rcases id h.2 with ⟨_, hz⟩ | ⟨g, cap, cur, rfl, _⟩
  · have := (List.getElem?_eq_some_iff.1 hi).1
    rw [h.1, hz] at this
    simp at this
  · have c := h.cells (g := g) rfl i u hi
    rw [Addr.add_lit, Nat.zero_add] at c
    exact ⟨g, cap, rfl, c⟩
set_option maxRecDepth 100000 in
set_option maxHeartbeats 4000000 in
theorem stillAvas_any (p : Nat) (a b c d : Value) (B n : Nat) (vs us : List Value) (ls : List (List Av)) (w : World) (h : BkAt w p a b c d) (ha : w.ownsRow B 65 1 a n vs) (hb : w.ownsRow B 65 1 b n us)
    (hn : ls.length = n) (hn2 : n ≤ 250) (hv : ∀ (i : Nat) (l : List Av), ls[i]? = some l → l.length ≤ 1000000 ∧ ∃ v u, vs[i]? = some v ∧ us[i]? = some u ∧ AvsAt w v l ∧ AvsAt w u l) :
    Calls Tryz.prog 50 #[.pointer (some ⟨p, 0, none⟩)] w fun e w' => e = .returned (.bool true) ∧ Below w.heap.size w w' := by
  obtain ⟨q0, q1, _, _⟩ := h.cells
  have HV := Lib.hid hv
  clear hv
  go_enter Tryz.func50, Tryz.ntmps50
  go_wp2_with fail
  go_loopw [3] (fun i wr => ∃ k m : Nat, i = .int .i64 (k : Int) ∧ k ≤ n ∧ wr = w.drewN m) (fun i _ => n - (RowKit.intOf i).toNat)
  case atStart => exact ⟨0, 0, rfl, by omega, rfl⟩
  case round =>
    obtain ⟨k, m, rfl, hk, rfl⟩ := hrel
    by_cases hkl : k < n
    · obtain ⟨l, hl⟩ : ∃ l, ls[k]? = some l := ⟨ls[k]'(by omega), List.getElem?_eq_getElem _⟩
      obtain ⟨hll, v, u, hv, hu, h1, h2⟩ := HV.out k l hl
      obtain ⟨ga, ca, hae, hca⟩ := own_at ha hv
      obtain ⟨gb, cb, hbe, hcb⟩ := own_at hb hu
      subst hae hbe
      have i1 : (k : Int) < (n : Int) := by omega
      have i3 : decide ((k : Int) < (n : Int)) = true := decide_eq_true i1
      have ks := fun a => (SAvas_any v u l l (w.drewN (m + a)) (h1.drewN _) (h2.drewN _) hll hll).mono (fun e w'' h => (show e = .returned (.bool (decide (l = l))) ∧ ∃ n, w'' = w.drewN (m + n) from ⟨h.1, h.2.elim fun n hn => ⟨a + n, by rw [hn, World.drewN_drewN, Nat.add_assoc]⟩⟩))
      rw [decide_eq_true rfl] at ks
      obtain ⟨b1, d1, e5, _, _⟩ := h1
      obtain ⟨b2, d2, e6, _, _⟩ := h2
      subst e5 e6
      clear hn hl hv hu
      go_wp2
      go_quiet (exact ks _)
      go_wp2
      exact ⟨⟨k + 1, _, by go_num, by omega, rfl⟩, by simp [RowKit.intOf]; omega⟩
    · obtain rfl : k = n := by omega
      have i3 : decide ((k : Int) < (k : Int)) = false := decide_eq_false (by omega)
      rcases id ha.2 with ⟨hae, hz⟩ | ⟨ga, ca, cur, hae, _⟩
      all_goals
        subst hae
        go_wp2_with fail
        go_ret
        exact ⟨rfl, Below.drewN (Below.refl _ _) _⟩
set_option maxRecDepth 100000 in
set_option maxHeartbeats 4000000 in
theorem stillRdns_any (p : Nat) (a b c d : Value) (B n : Nat) (vs us : List Value) (ls : List (List (List Av))) (w : World) (h : BkAt w p a b c d) (ha : w.ownsRow B 59 1 c n vs) (hb : w.ownsRow B 59 1 d n us)
    (hn : ls.length = n) (hn2 : n ≤ 250) (hv : ∀ (i : Nat) (l : List (List Av)), ls[i]? = some l → l.length ≤ 1000000 ∧ (∀ r ∈ l, r.length ≤ 1000000) ∧ ∃ v u, vs[i]? = some v ∧ us[i]? = some u ∧ DnAt w v l ∧ DnAt w u l) :
    Calls Tryz.prog 51 #[.pointer (some ⟨p, 0, none⟩)] w fun e w' => e = .returned (.bool true) ∧ Below w.heap.size w w' := by
  obtain ⟨_, _, q0, q1⟩ := h.cells
  have HV := Lib.hid hv
  clear hv
  go_enter Tryz.func51, Tryz.ntmps51
  go_wp2_with fail
  go_loopw [3] (fun i wr => ∃ k m : Nat, i = .int .i64 (k : Int) ∧ k ≤ n ∧ wr = w.drewN m) (fun i _ => n - (RowKit.intOf i).toNat)
  case atStart => exact ⟨0, 0, rfl, by omega, rfl⟩
  case round =>
    obtain ⟨k, m, rfl, hk, rfl⟩ := hrel
    by_cases hkl : k < n
    · obtain ⟨l, hl⟩ : ∃ l, ls[k]? = some l := ⟨ls[k]'(by omega), List.getElem?_eq_getElem _⟩
      obtain ⟨hll, hlr, v, u, hv, hu, h1, h2⟩ := HV.out k l hl
      obtain ⟨ga, ca, hae, hca⟩ := own_at ha hv
      obtain ⟨gb, cb, hbe, hcb⟩ := own_at hb hu
      subst hae hbe
      have i1 : (k : Int) < (n : Int) := by omega
      have i3 : decide ((k : Int) < (n : Int)) = true := decide_eq_true i1
      have ks := fun a => (SRdns_any v u l l (w.drewN (m + a)) (h1.drewN _) (h2.drewN _) hll hll hlr hlr).mono (fun e w'' h => (show e = .returned (.bool (decide (l = l))) ∧ ∃ n, w'' = w.drewN (m + n) from ⟨h.1, h.2.elim fun n hn => ⟨a + n, by rw [hn, World.drewN_drewN, Nat.add_assoc]⟩⟩))
      rw [decide_eq_true rfl] at ks
      obtain ⟨b1, d1, e5, _, _⟩ := h1
      obtain ⟨b2, d2, e6, _, _⟩ := h2
      subst e5 e6
      clear hn hl hv hu hlr
      go_wp2
      go_quiet (exact ks _)
      go_wp2
      exact ⟨⟨k + 1, _, by go_num, by omega, rfl⟩, by simp [RowKit.intOf]; omega⟩
    · obtain rfl : k = n := by omega
      have i3 : decide ((k : Int) < (k : Int)) = false := decide_eq_false (by omega)
      rcases id ha.2 with ⟨hae, hz⟩ | ⟨ga, ca, cur, hae, _⟩
      all_goals
        subst hae
        go_wp2_with fail
        go_ret
        exact ⟨rfl, Below.drewN (Below.refl _ _) _⟩
end Go.Proofs.YtegigcneimjimaaGreatDoor
namespace Go.Proofs.YtegigcneimjimaaGreatDoor
open Go.RowKit Go.Lib

/-- The blocks of these lists. -/
def Blks (vs : List Value) (k : Nat) : Prop := ∃ v ∈ vs, v.ownBlock = some k
def pv (k i : Nat) (l : List Av) : List Av := if i < k then prs (mkN i 0 l.length) else l
theorem pv_length (k i : Nat) (l : List Av) : (pv k i l).length = l.length := by unfold pv; split <;> simp [prs_length, mkN_length]
def PutA (w : World) (B : Nat) (vs : List Value) (ls : List (List Av)) (k : Nat) (wr : World) : Prop :=
  KG (Blks vs) w wr ∧ ∀ (i : Nat) (l : List Av), ls[i]? = some l → ∃ v, vs[i]? = some v ∧ wr.ownsRow B 146 2 v l.length (aV (pv k i l))
def PutI (w : World) (B : Nat) (vs : List Value) (ls : List (List Av)) (k : Nat) (B1 : Nat) (m : Value) (l : List Av) (q : Value) (wr : World) : Prop :=
  ∃ j : Nat, j ≤ l.length ∧ q = .int .i64 (j : Int) ∧ KG (Blks vs) w wr ∧ wr.ownsRow B1 146 2 m l.length (aV (prs (mkN k 0 l.length))) ∧
    ∀ (i : Nat) (l' : List Av), ls[i]? = some l' → ∃ v, vs[i]? = some v ∧ wr.ownsRow B 146 2 v l'.length (aV (if i = k then prs (mkN k 0 j) ++ l'.drop j else pv k i l'))
theorem own_cell2 {w : World} {B n g cap : Nat} {r : List Av} (h : w.ownsRow B 146 2 (.slice (some ⟨g, 0, none⟩) n cap) n (aV r)) {j : Nat} {a : Av} (hj : r[j]? = some a) :
    w.cell? ⟨g, j * 2, none⟩ = some (.string ⟨a.1.toArray⟩) ∧ w.cell? ⟨g, j * 2 + 1, none⟩ = some (.string ⟨a.2.toArray⟩) := by
  obtain ⟨h1, h2⟩ := aV_get r j a hj
  have c1 := h.cells (g := g) rfl _ _ h1
  have c2 := h.cells (g := g) rfl _ _ h2
  rw [Addr.add_lit, Nat.zero_add, Nat.mul_comm] at c1 c2
  exact ⟨c1, c2⟩
theorem aV_set (a b : List Av) (x y : Av) : ((aV (a ++ x :: b)).set (a.length * 2) (.string ⟨y.1.toArray⟩)).set (a.length * 2 + 1) (.string ⟨y.2.toArray⟩) = aV ((a ++ [y]) ++ b) := by
  have e : aV (a ++ x :: b) = aV a ++ (.string ⟨x.1.toArray⟩ :: .string ⟨x.2.toArray⟩ :: aV b) := by simp [aV]
  have e2 : aV ((a ++ [y]) ++ b) = aV a ++ (.string ⟨y.1.toArray⟩ :: .string ⟨y.2.toArray⟩ :: aV b) := by simp [aV]
  rw [e, e2, ← aV_length a]
  simp
theorem own_two {w : World} {B e size n g i j : Nat} {v x y : Value} {xs : List Value} (h : w.ownsRow B e size v n xs) (hg : v.ownBlock ≠ some g) : ((w.setCell ⟨g, i, none⟩ x).setCell ⟨g, j, none⟩ y).ownsRow B e size v n xs := by
  have hk : KG (fun k => k = g) w ((w.setCell ⟨g, i, none⟩ x).setCell ⟨g, j, none⟩ y) := ((KG.refl (fun k => k = g) w).set ⟨g, i, none⟩ x (.inl rfl)).set ⟨g, j, none⟩ y (.inl rfl)
  exact hk.own h (fun k hk e => hg (by rw [hk, e]))
theorem put_next {w wd : World} {B B1 k j gv cv : Nat} {vs : List Value} {ls : List (List Av)} {m : Value} {l : List Av} {x : Av} (hs : Sep vs) (hlk : ls[k]? = some l) (hvk : vs[k]? = some (.slice (some ⟨gv, 0, none⟩) l.length cv)) (hgv : gv < B1) (hjl : j < l.length)
    (hj : l.drop j = x :: l.drop (j + 1)) (hm : wd.ownsRow B1 146 2 m l.length (aV (prs (mkN k 0 l.length)))) (hkg : KG (Blks vs) w wd)
    (hrow : ∀ (i : Nat) (l' : List Av), ls[i]? = some l' → ∃ v, vs[i]? = some v ∧ wd.ownsRow B 146 2 v l'.length (aV (if i = k then prs (mkN k 0 j) ++ l'.drop j else pv k i l'))) :
    PutI w B vs ls k B1 m l (.int .i64 ((j : Int) + 1)) ((wd.setCell ⟨gv, j * 2, none⟩ (.string ⟨(nameL k j).toArray⟩)).setCell ⟨gv, j * 2 + 1, none⟩ (.string ⟨#[]⟩)) := by
  have hG : Blks vs gv := ⟨_, List.mem_of_getElem? hvk, rfl⟩
  refine ⟨j + 1, hjl, by go_num, (hkg.set _ _ (.inl hG)).set _ _ (.inl hG), own_two hm (fun e => by have := (hm.lt _ e).1; omega), fun i l' hi => ?_⟩
  obtain ⟨v, h1, h2⟩ := hrow i l' hi
  refine ⟨v, h1, ?_⟩
  by_cases hik : i = k
  · subst hik
    rw [hlk] at hi
    cases hi
    rw [hvk] at h1
    cases h1
    rw [if_pos rfl, hj] at h2
    rw [if_pos rfl]
    have h3 := ((h2.stored (j * 2) (.string ⟨(nameL i j).toArray⟩)).1.stored (j * 2 + 1) (.string ⟨#[]⟩)).1
    have e := aV_set (prs (mkN i 0 j)) (l.drop (j + 1)) x (nameL i j, [])
    rw [prs_length, mkN_length] at e
    rw [e] at h3
    rw [mkN_succ, prs_append, Nat.zero_add]
    exact h3
  · rw [if_neg hik] at h2 ⊢
    exact own_two h2 (fun e => hs i k v _ gv hik h1 hvk e rfl)
set_option maxRecDepth 100000 in
set_option maxHeartbeats 4000000 in
theorem putAvas_any (p : Nat) (a b c d : Value) (B n : Nat) (vs : List Value) (ls : List (List Av)) (w : World) (h : BkAt w p a b c d) (ha : w.ownsRow B 65 1 a n vs)
    (hn : ls.length = n) (hn2 : n ≤ 250) (hl : ∀ l ∈ ls, l.length ≤ 900000) (hv : ∀ (i : Nat) (l : List Av), ls[i]? = some l → ∃ v, vs[i]? = some v ∧ w.ownsRow B 146 2 v l.length (aV l)) (hs : Sep vs) :
    Calls Tryz.prog 73 #[.pointer (some ⟨p, 0, none⟩)] w fun e w' => e = .returned (.tuple #[]) ∧ KG (Blks vs) w w' ∧
      ∀ (i : Nat) (l : List Av), ls[i]? = some l → ∃ v, vs[i]? = some v ∧ w'.ownsRow B 146 2 v l.length (aV (prs (mkN i 0 l.length))) := by
  have hvl : vs.length = n := by have := ha.1; omega
  have hty : ∀ k, Blks vs k → Ty w k 146 := by
    rintro k ⟨v, hm, hk⟩
    obtain ⟨i, hi⟩ := List.getElem?_of_mem hm
    have hil := (List.getElem?_eq_some_iff.1 hi).1
    obtain ⟨v', h1, h2⟩ := hv i ls[i] (List.getElem?_eq_getElem (by omega))
    rw [hi] at h1
    cases h1
    exact own_ty h2 hk
  have hlt : ∀ k, Blks vs k → k < w.heap.size := by
    intro k hk
    obtain ⟨_, _, h'⟩ := hty k hk
    exact (Array.getElem?_eq_some_iff.1 h').1
  have hnp : ¬ Blks vs p := fun hk => absurd ((hty p hk).eq h.ty) (by decide)
  have hna : ∀ k, a.ownBlock = some k → ¬ Blks vs k := fun k hk hb => absurd ((hty k hb).eq (own_ty ha hk)) (by decide)
  have HV := Lib.hid hv
  have HL := Lib.hid hl
  have HN := Lib.hid hn
  have HB := Lib.hid hvl
  clear hv hl hty hn hvl
  go_enter Tryz.func73, Tryz.ntmps73
  go_wp2_with fail
  go_loopw [2] (fun q wr => ∃ k : Nat, k ≤ n ∧ q = .int .i64 (k : Int) ∧ PutA w B vs ls k wr) (fun q _ => n - (RowKit.intOf q).toNat)
  case atStart => exact ⟨0, by omega, rfl, KG.refl _ _, fun i l hi => by simpa [pv] using HV.out i l hi⟩
  case round =>
    obtain ⟨k, hk, rfl, hkg, hrow⟩ := hrel
    have ha1 := hkg.own ha hna
    have hp1 := h.kg hkg hnp
    obtain ⟨q0, _, _, _⟩ := hp1.cells
    by_cases hkn : k < n
    · obtain ⟨l, hlk⟩ : ∃ l, ls[k]? = some l := ⟨ls[k]'(by have := HN.out; omega), List.getElem?_eq_getElem _⟩
      have hll := HL.out l (List.mem_of_getElem? hlk)
      obtain ⟨v, hvk, hov⟩ := hrow k l hlk
      obtain ⟨ga, ca, hae, hca⟩ := own_at ha1 hvk
      have hpk : pv k k l = l := by unfold pv; rw [if_neg (Nat.lt_irrefl _)]
      rw [hpk] at hov
      obtain ⟨av, cv, hve, _, _⟩ := own_avs hov
      subst hae hve
      have hbl : ∀ g, av = some g → g.block < wr.heap.size := fun g hg => (hov.lt g.block (by rw [hg]; rfl)).2
      have g1 : decide ((k : Int) < (n : Int)) = true := decide_eq_true (by omega)
      have g2 : (k : Int) < (n : Int) := by omega
      have km := markAvas_any k 0 l.length wr (by omega) (by omega)
      clear hov hpk
      go_wp2_with (go_at_call 190; refine Calls.mono (show Calls _ _ _ _ _ from km) ?_; rintro e w4 ⟨⟨v4, rfl, hv4⟩, hb4⟩; obtain ⟨a4, c4, he4, _, _⟩ := own_avs (r := prs (mkN k 0 l.length)) (by rw [prs_length, mkN_length]; exact hv4); rw [prs_length, mkN_length] at he4; subst he4)
      have hkg4 := hkg.ext hb4
      have hrow4 : ∀ (i : Nat) (l' : List Av), ls[i]? = some l' → ∃ v, vs[i]? = some v ∧ w4.ownsRow B 146 2 v l'.length (aV (if i = k then prs (mkN k 0 0) ++ l'.drop 0 else pv k i l')) := by
        intro i l' hi
        obtain ⟨v, h1, h2⟩ := hrow i l' hi
        refine ⟨v, h1, ?_⟩
        have h3 := ownBelow h2 hb4
        by_cases hik : i = k
        · subst hik
          rw [if_pos rfl]
          have hpk : pv i i l' = l' := by unfold pv; rw [if_neg (Nat.lt_irrefl _)]
          rw [hpk] at h3
          exact h3
        · rw [if_neg hik]
          exact h3
      have hszo := hkg.size
      clear hkg hrow ha1 hp1 q0 hca g1 hb4 km
      obtain ⟨wo, hwo⟩ : ∃ wo : World, wo = wr := ⟨_, rfl⟩
      subst hwo
      go_loopw [4] (fun q wr2 => PutI w B vs ls k wo.heap.size (.slice a4 l.length c4) l q wr2) (fun q _ => l.length - (RowKit.intOf q).toNat)
      case atStart => exact ⟨0, by omega, rfl, hkg4, hv4, hrow4⟩
      case round =>
        clear hkg4 hv4 hrow4
        obtain ⟨j, hj, rfl, hkg, hm, hrow⟩ := hrel
        have ha1 := hkg.own ha hna
        have hp1 := h.kg hkg hnp
        obtain ⟨q0, _, _, _⟩ := hp1.cells
        obtain ⟨ga', ca', hae, hca⟩ := own_at ha1 hvk
        cases hae
        by_cases hjl : j < l.length
        · obtain ⟨v, hvk', hov⟩ := hrow k l hlk
          rw [hvk] at hvk'
          cases hvk'
          rw [if_pos rfl] at hov
          rcases id hov.2 with ⟨_, hz⟩ | ⟨gv, cv', cur, hve, _⟩
          · omega
          cases hve
          rcases id hm.2 with ⟨_, hz⟩ | ⟨gm, cm', curm, hme, _⟩
          · omega
          cases hme
          obtain ⟨x, hx⟩ : ∃ x, l[j] = x := ⟨_, rfl⟩
          have hdrop : l.drop j = x :: l.drop (j + 1) := by rw [List.drop_eq_getElem_cons hjl, hx]
          have hnj : (prs (mkN k 0 l.length))[j]? = some (nameL k j, []) := by
            unfold prs
            rw [List.getElem?_map, mkN_get k 0 l.length j hjl, Nat.zero_add]
            rfl
          obtain ⟨m1, m2⟩ := own_cell2 hm hnj
          obtain ⟨n1, n2⟩ := own_cell2 hov (j := j) (a := x) (by rw [List.getElem?_append_right (by rw [prs_length, mkN_length]; exact Nat.le_refl _), prs_length, mkN_length, Nat.sub_self, hdrop]; rfl)
          have f1 := hov.frozenAt (j * 2)
          have f2 := hov.frozenAt (j * 2 + 1)
          have i1 : (j : Int) < (l.length : Int) := by omega
          have i3 : decide ((j : Int) < (l.length : Int)) = true := decide_eq_true i1
          have HD := Lib.hid hdrop
          clear hx hdrop hnj
          go_wp2
          go_still_tail 13, (by kernel_rfl)
          have hm' : wr.drew.ownsRow wo.heap.size 146 2 (.slice (some ⟨gm, 0, none⟩) l.length c4) l.length (aV (prs (mkN k 0 l.length))) := hm
          have hov' : wr.drew.ownsRow B 146 2 (.slice (some ⟨gv, 0, none⟩) l.length cv) l.length (aV (prs (mkN k 0 j) ++ l.drop j)) := hov
          have hkg' : KG (Blks vs) w wr.drew := hkg.drew
          have hrow' : ∀ (i : Nat) (l' : List Av), ls[i]? = some l' → ∃ v, vs[i]? = some v ∧ wr.drew.ownsRow B 146 2 v l'.length (aV (if i = k then prs (mkN k 0 j) ++ l'.drop j else pv k i l')) := hrow
          change wpList _ _ _ _ _ wr.drew
          have n1' : wr.drew.cell? ⟨gv, j * 2, none⟩ = _ := n1
          have n2' : wr.drew.cell? ⟨gv, j * 2 + 1, none⟩ = _ := n2
          have f1' : wr.drew.frozen? ⟨gv, j * 2, none⟩ = false := f1
          have f2' : wr.drew.frozen? ⟨gv, j * 2 + 1, none⟩ = false := f2
          clear hm hov hkg hrow n1 n2 f1 f2 ha1 hp1 q0 hca m1 m2
          generalize wr.drew = wd at hm' hov' hkg' hrow' n1' n2' f1' f2' ⊢
          go_wp2_with fail
          exact ⟨put_next hs hlk hvk (by have := hlt gv ⟨_, List.mem_of_getElem? hvk, rfl⟩; omega) hjl HD.out hm' hkg' hrow', by simp [RowKit.intOf]; omega⟩
        · obtain rfl : j = l.length := by omega
          have i3 : decide (((l.length : Nat) : Int) < (l.length : Int)) = false := decide_eq_false (by omega)
          have hnext : PutA w B vs ls (k + 1) wr := ⟨hkg, fun i l' hi => by
            obtain ⟨v, h1, h2⟩ := hrow i l' hi
            refine ⟨v, h1, ?_⟩
            by_cases hik : i = k
            · subst hik
              rw [hlk] at hi
              cases hi
              rw [if_pos rfl, List.drop_of_length_le (Nat.le_refl _), List.append_nil] at h2
              unfold pv
              rw [if_pos (Nat.lt_succ_self _)]
              exact h2
            · rw [if_neg hik] at h2
              have e : pv (k + 1) i l' = pv k i l' := by
                unfold pv
                by_cases h3 : i < k
                · rw [if_pos h3, if_pos (by omega)]
                · rw [if_neg h3, if_neg (by omega)]
              rw [e]
              exact h2⟩
          clear hkg hm hrow ha1 hp1 q0 hca
          go_wp2_with fail
          exact ⟨⟨k + 1, by omega, by go_num, hnext⟩, by simp [RowKit.intOf]; omega⟩
    · obtain rfl : k = n := by omega
      have i3 : decide ((k : Int) < (k : Int)) = false := decide_eq_false (by omega)
      have hfin : ∀ (i : Nat) (l : List Av), ls[i]? = some l → ∃ v, vs[i]? = some v ∧ wr.ownsRow B 146 2 v l.length (aV (prs (mkN i 0 l.length))) := fun i l hi => by
        obtain ⟨v, h1, h2⟩ := hrow i l hi
        refine ⟨v, h1, ?_⟩
        unfold pv at h2
        rw [if_pos (by have := (List.getElem?_eq_some_iff.1 hi).1; have := HN.out; omega)] at h2
        exact h2
      have HF := Lib.hid hfin
      clear hfin hrow
      rcases id ha1.2 with ⟨hae, hz⟩ | ⟨ga, ca, cur, hae, _⟩
      all_goals
        subst hae
        go_wp2_with fail
        first | go_end0 | refine bodyPost_ret (v := .tuple #[]) (by simp [results, Tryz.results73, go_sem]) rfl ?_
        exact ⟨rfl, hkg, HF.out⟩
end Go.Proofs.YtegigcneimjimaaGreatDoor
namespace Go.Proofs.YtegigcneimjimaaGreatDoor
open Go.RowKit Go.Lib

/-- Values that stand for marks of parts, in rows from block W on. -/
def MarkR (W : Nat) (w : World) (i : Nat) (ms : List Value) (n : Nat) : Prop := ms.length = n ∧ ∀ (j : Nat), j < n → ∃ u, ms[j]? = some u ∧ w.ownsRow W 146 2 u 1 (aV [(nameL i j, [])])
theorem MarkR.kg {G : Nat → Prop} {W i n : Nat} {w w' : World} {ms : List Value} (h : MarkR W w i ms n) (hk : KG G w w') (hG : ∀ k, G k → k < W) : MarkR W w' i ms n :=
  ⟨h.1, fun j hj => by obtain ⟨u, h1, h2⟩ := h.2 j hj; exact ⟨u, h1, hk.own h2 (fun k hk hg => by have := (h2.lt k hk).1; have := hG k hg; omega)⟩⟩
theorem MarkR.mono {W W' i n : Nat} {w : World} {ms : List Value} (h : MarkR W w i ms n) (hW : W' ≤ W) : MarkR W' w i ms n :=
  ⟨h.1, fun j hj => by obtain ⟨u, h1, h2⟩ := h.2 j hj; exact ⟨u, h1, ownMono h2 hW⟩⟩
theorem markR_of {W i n : Nat} {w : World} {ms : List Value} (h : ∀ (j : Nat) (r : List Av), (rds (mkN i 0 n))[j]? = some r → ∃ u, ms[j]? = some u ∧ w.ownsRow W 146 2 u r.length (aV r)) (hl : ms.length = n) : MarkR W w i ms n :=
  ⟨hl, fun j hj => by
    obtain ⟨u, h1, h2⟩ := h j [(nameL i j, [])] (by unfold rds; rw [List.getElem?_map, mkN_get i 0 n j hj, Nat.zero_add]; rfl)
    exact ⟨u, h1, h2⟩⟩
def RowR (W B : Nat) (wr : World) (k i : Nat) (v : Value) (ys : List Value) : Prop :=
  if i < k then ∃ ms, wr.ownsRow B 66 1 v ys.length ms ∧ MarkR W wr i ms ys.length else wr.ownsRow B 66 1 v ys.length ys
def PutR (w : World) (B : Nat) (vs : List Value) (ls : List (List Value)) (k : Nat) (wr : World) : Prop :=
  KG (Blks vs) w wr ∧ ∀ (i : Nat) (l : List Value), ls[i]? = some l → ∃ v, vs[i]? = some v ∧ RowR w.heap.size B wr k i v l
def PutJ (w : World) (B : Nat) (vs : List Value) (ls : List (List Value)) (k : Nat) (B1 : Nat) (m : Value) (ms : List Value) (l : List Value) (q : Value) (wr : World) : Prop :=
  ∃ j : Nat, j ≤ l.length ∧ q = .int .i64 (j : Int) ∧ KG (Blks vs) w wr ∧ wr.ownsRow B1 66 1 m l.length ms ∧ MarkR B1 wr k ms l.length ∧
    ∀ (i : Nat) (l' : List Value), ls[i]? = some l' → ∃ v, vs[i]? = some v ∧ (if i = k then wr.ownsRow B 66 1 v l'.length (ms.take j ++ l'.drop j) else RowR w.heap.size B wr k i v l')
theorem own_cell1 {w : World} {B e n g cap : Nat} {r : List Value} (h : w.ownsRow B e 1 (.slice (some ⟨g, 0, none⟩) n cap) n r) {j : Nat} {a : Value} (hj : r[j]? = some a) : w.cell? ⟨g, j, none⟩ = some a := by
  have c1 := h.cells (g := g) rfl _ _ hj
  rw [Addr.add_lit, Nat.zero_add] at c1
  exact c1
theorem own_oneG {w : World} {B e size n g i : Nat} {v x : Value} {xs : List Value} (h : w.ownsRow B e size v n xs) (hg : v.ownBlock ≠ some g) : (w.setCell ⟨g, i, none⟩ x).ownsRow B e size v n xs := by
  have hk : KG (fun k => k = g) w (w.setCell ⟨g, i, none⟩ x) := (KG.refl (fun k => k = g) w).set ⟨g, i, none⟩ x (.inl rfl)
  exact hk.own h (fun k hk e => hg (by rw [hk, e]))
theorem RowR.set {W B k i g o : Nat} {wd : World} {v x : Value} {ys : List Value} (h : RowR W B wd k i v ys) (hv : v.ownBlock ≠ some g) (hg : g < W) : RowR W B (wd.setCell ⟨g, o, none⟩ x) k i v ys := by
  unfold RowR at h ⊢
  split
  · rename_i hik
    rw [if_pos hik] at h
    obtain ⟨ms, h1, h2⟩ := h
    refine ⟨ms, own_oneG h1 hv, h2.kg (G := fun k => k = g) ((KG.refl (fun k => k = g) wd).set ⟨g, o, none⟩ x (.inl rfl)) (fun k hk => by rw [hk]; exact hg)⟩
  · rename_i hik
    rw [if_neg hik] at h
    exact own_oneG h hv
theorem put_nextR {w wd : World} {B B1 k j gv cv : Nat} {vs : List Value} {ls : List (List Value)} {m u x : Value} {l ms : List Value} (hs : Sep vs) (hlk : ls[k]? = some l) (hvk : vs[k]? = some (.slice (some ⟨gv, 0, none⟩) l.length cv)) (hgv : gv < w.heap.size) (hB1 : w.heap.size ≤ B1) (hjl : j < l.length)
    (hj : l.drop j = x :: l.drop (j + 1)) (hu : ms[j]? = some u) (hm : wd.ownsRow B1 66 1 m l.length ms) (hms : MarkR B1 wd k ms l.length) (hkg : KG (Blks vs) w wd)
    (hrow : ∀ (i : Nat) (l' : List Value), ls[i]? = some l' → ∃ v, vs[i]? = some v ∧ (if i = k then wd.ownsRow B 66 1 v l'.length (ms.take j ++ l'.drop j) else RowR w.heap.size B wd k i v l')) :
    PutJ w B vs ls k B1 m ms l (.int .i64 ((j : Int) + 1)) (wd.setCell ⟨gv, j, none⟩ u) := by
  have hG : Blks vs gv := ⟨_, List.mem_of_getElem? hvk, rfl⟩
  refine ⟨j + 1, hjl, by go_num, hkg.set _ _ (.inl hG), own_oneG hm (fun e => by have := (hm.lt _ e).1; omega), hms.kg (G := fun k => k = gv) ((KG.refl (fun k => k = gv) wd).set ⟨gv, j, none⟩ u (.inl rfl)) (fun k hk => by rw [hk]; omega), fun i l' hi => ?_⟩
  obtain ⟨v, h1, h2⟩ := hrow i l' hi
  refine ⟨v, h1, ?_⟩
  by_cases hik : i = k
  · subst hik
    rw [hlk] at hi
    cases hi
    rw [hvk] at h1
    cases h1
    rw [if_pos rfl, hj] at h2
    rw [if_pos rfl]
    have h3 := (h2.stored j u).1
    have hlt : j < ms.length := (List.getElem?_eq_some_iff.1 hu).1
    have htl : (ms.take j).length = j := by rw [List.length_take]; omega
    have e := set_mid (ms.take j) (l.drop (j + 1)) x u
    rw [htl] at e
    rw [e] at h3
    rw [List.take_add_one, hu]
    exact h3
  · rw [if_neg hik] at h2 ⊢
    exact h2.set (fun e => hs i k v _ gv hik h1 hvk e rfl) hgv
set_option maxRecDepth 100000 in
set_option maxHeartbeats 4000000 in
theorem putRdns_any (p : Nat) (a b c d : Value) (B n : Nat) (vs : List Value) (ls : List (List Value)) (w : World) (h : BkAt w p a b c d) (ha : w.ownsRow B 59 1 c n vs)
    (hn : ls.length = n) (hn2 : n ≤ 250) (hl : ∀ l ∈ ls, l.length ≤ 900000) (hv : ∀ (i : Nat) (l : List Value), ls[i]? = some l → ∃ v, vs[i]? = some v ∧ w.ownsRow B 66 1 v l.length l)
    (hf : ∀ v ∈ vs, ∃ A N C, v = .slice A N C) (hfl : ∀ l ∈ ls, ∀ u ∈ l, ∃ A N C, u = .slice A N C) (hs : Sep vs) :
    Calls Tryz.prog 69 #[.pointer (some ⟨p, 0, none⟩)] w fun e w' => e = .returned (.tuple #[]) ∧ KG (Blks vs) w w' ∧
      ∀ (i : Nat) (l : List Value), ls[i]? = some l → ∃ v, vs[i]? = some v ∧ ∃ ms, w'.ownsRow B 66 1 v l.length ms ∧ MarkR w.heap.size w' i ms l.length := by
  have hvl : vs.length = n := by have := ha.1; omega
  have hty : ∀ k, Blks vs k → Ty w k 66 := by
    rintro k ⟨v, hm, hk⟩
    obtain ⟨i, hi⟩ := List.getElem?_of_mem hm
    have hil := (List.getElem?_eq_some_iff.1 hi).1
    obtain ⟨v', h1, h2⟩ := hv i ls[i] (List.getElem?_eq_getElem (by omega))
    rw [hi] at h1
    cases h1
    exact own_ty h2 hk
  have hlt : ∀ k, Blks vs k → k < w.heap.size := by
    intro k hk
    obtain ⟨_, _, h'⟩ := hty k hk
    exact (Array.getElem?_eq_some_iff.1 h').1
  have hnp : ¬ Blks vs p := fun hk => absurd ((hty p hk).eq h.ty) (by decide)
  have hna : ∀ k, c.ownBlock = some k → ¬ Blks vs k := fun k hk hb => absurd ((hty k hb).eq (own_ty ha hk)) (by decide)
  have HV := Lib.hid hv
  have HL := Lib.hid hl
  have HN := Lib.hid hn
  have HB := Lib.hid hvl
  have HF := Lib.hid hf
  have HG := Lib.hid hfl
  clear hv hl hty hn hvl hf hfl
  go_enter Tryz.func69, Tryz.ntmps69
  go_wp2_with fail
  go_loopw [2] (fun q wr => ∃ k : Nat, k ≤ n ∧ q = .int .i64 (k : Int) ∧ PutR w B vs ls k wr) (fun q _ => n - (RowKit.intOf q).toNat)
  case atStart => exact ⟨0, by omega, rfl, KG.refl _ _, fun i l hi => by simpa [RowR] using HV.out i l hi⟩
  case round =>
    obtain ⟨k, hk, rfl, hkg, hrow⟩ := hrel
    have ha1 := hkg.own ha hna
    have hp1 := h.kg hkg hnp
    obtain ⟨_, _, q0, _⟩ := hp1.cells
    by_cases hkn : k < n
    · obtain ⟨l, hlk⟩ : ∃ l, ls[k]? = some l := ⟨ls[k]'(by have := HN.out; omega), List.getElem?_eq_getElem _⟩
      have hll := HL.out l (List.mem_of_getElem? hlk)
      obtain ⟨v, hvk, hov⟩ := hrow k l hlk
      obtain ⟨ga, ca, hae, hca⟩ := own_at ha1 hvk
      unfold RowR at hov
      rw [if_neg (Nat.lt_irrefl _)] at hov
      obtain ⟨av, nv, cv, hve⟩ := HF.out v (List.mem_of_getElem? hvk)
      obtain rfl : nv = l.length := by
        rcases hov.2 with ⟨h1, h2⟩ | ⟨_, _, _, h1, _⟩
        · rw [hve] at h1; cases h1; exact h2.symm
        · rw [hve] at h1; cases h1; rfl
      subst hae hve
      have g1 : decide ((k : Int) < (n : Int)) = true := decide_eq_true (by omega)
      have g2 : (k : Int) < (n : Int) := by omega
      have km := markRdns_any k 0 l.length wr (by omega) (by omega)
      clear hov
      go_wp2_with (go_at_call 186; refine Calls.mono (show Calls _ _ _ _ _ from km) ?_; rintro e w4 ⟨⟨v4, rfl, hv4⟩, hb4⟩; obtain ⟨a4, c4, he4, _, _⟩ := hv4.at; rw [rds_length, mkN_length] at he4; subst he4)
      obtain ⟨ms, hv4, hm4, _⟩ := hv4
      rw [rds_length, mkN_length] at hv4
      have hmr4 : MarkR wr.heap.size w4 k ms l.length := markR_of hm4 (by have := hv4.1; omega)
      have hkg4 := hkg.ext hb4
      have hrow4 : ∀ (i : Nat) (l' : List Value), ls[i]? = some l' → ∃ v, vs[i]? = some v ∧ (if i = k then w4.ownsRow B 66 1 v l'.length (ms.take 0 ++ l'.drop 0) else RowR w.heap.size B w4 k i v l') := by
        intro i l' hi
        obtain ⟨v, h1, h2⟩ := hrow i l' hi
        refine ⟨v, h1, ?_⟩
        by_cases hik : i = k
        · subst hik
          rw [if_pos rfl]
          unfold RowR at h2
          rw [if_neg (Nat.lt_irrefl _)] at h2
          exact ownBelow h2 hb4
        · rw [if_neg hik]
          unfold RowR at h2 ⊢
          split
          · rename_i h3
            rw [if_pos h3] at h2
            obtain ⟨ms', h4, h5⟩ := h2
            exact ⟨ms', ownBelow h4 hb4, h5.kg (KG.of_below (G := fun _ => False) hb4) (fun _ h => h.elim)⟩
          · rename_i h3
            rw [if_neg h3] at h2
            exact ownBelow h2 hb4
      have hszo := hkg.size
      clear hkg hrow ha1 hp1 q0 hca g1 hb4 km hm4
      obtain ⟨wo, hwo⟩ : ∃ wo : World, wo = wr := ⟨_, rfl⟩
      subst hwo
      go_loopw [4] (fun q wr2 => PutJ w B vs ls k wo.heap.size (.slice a4 l.length c4) ms l q wr2) (fun q _ => l.length - (RowKit.intOf q).toNat)
      case atStart => exact ⟨0, by omega, rfl, hkg4, hv4, hmr4, hrow4⟩
      case round =>
        clear hkg4 hv4 hrow4 hmr4
        obtain ⟨j, hj, rfl, hkg, hm, hmr, hrow⟩ := hrel
        have ha1 := hkg.own ha hna
        have hp1 := h.kg hkg hnp
        obtain ⟨_, _, q0, _⟩ := hp1.cells
        obtain ⟨ga', ca', hae, hca⟩ := own_at ha1 hvk
        cases hae
        by_cases hjl : j < l.length
        · obtain ⟨v, hvk', hov⟩ := hrow k l hlk
          rw [hvk] at hvk'
          cases hvk'
          rw [if_pos rfl] at hov
          rcases id hov.2 with ⟨_, hz⟩ | ⟨gv, cv', cur, hve, _⟩
          · omega
          cases hve
          rcases id hm.2 with ⟨_, hz⟩ | ⟨gm, cm', curm, hme, _⟩
          · omega
          cases hme
          obtain ⟨x, hx⟩ : ∃ x, l[j] = x := ⟨_, rfl⟩
          have hxl := HG.out l (List.mem_of_getElem? hlk) x (hx ▸ List.getElem_mem hjl)
          have hdrop : l.drop j = x :: l.drop (j + 1) := by rw [List.drop_eq_getElem_cons hjl, hx]
          obtain ⟨u, hu, hou⟩ := hmr.2 j hjl
          have m1 := own_cell1 hm hu
          have htl : (ms.take j).length = j := by rw [List.length_take, hmr.1]; omega
          have n1 := own_cell1 hov (j := j) (a := x) (by rw [List.getElem?_append_right (by omega), htl, Nat.sub_self, hdrop]; rfl)
          have f1 := hov.frozenAt j
          have i1 : (j : Int) < (l.length : Int) := by omega
          have i3 : decide ((j : Int) < (l.length : Int)) = true := decide_eq_true i1
          have HD := Lib.hid hdrop
          have HU := Lib.hid hu
          obtain ⟨au, cu, hue, _, _⟩ := own_avs (r := [(nameL k j, [])]) hou
          obtain ⟨ax, nx, cx, hxe⟩ := hxl
          subst hue hxe
          clear hx hdrop htl hu hou
          go_wp2
          go_still_tail 13, (by kernel_rfl)
          change wpList _ _ _ _ _ wr.drew
          have hm' : wr.drew.ownsRow wo.heap.size 66 1 (.slice (some ⟨gm, 0, none⟩) l.length c4) l.length ms := hm
          have hmr' : MarkR wo.heap.size wr.drew k ms l.length := hmr
          have hkg' : KG (Blks vs) w wr.drew := hkg.drew
          have hrow' : ∀ (i : Nat) (l' : List Value), ls[i]? = some l' → ∃ v, vs[i]? = some v ∧ (if i = k then wr.drew.ownsRow B 66 1 v l'.length (ms.take j ++ l'.drop j) else RowR w.heap.size B wr.drew k i v l') := hrow
          have n1' : wr.drew.cell? ⟨gv, j, none⟩ = _ := n1
          have f1' : wr.drew.frozen? ⟨gv, j, none⟩ = false := f1
          clear hm hov hkg hrow n1 f1 ha1 hp1 q0 hca m1 hmr
          generalize wr.drew = wd at hm' hmr' hkg' hrow' n1' f1' ⊢
          go_wp2_with fail
          exact ⟨put_nextR hs hlk hvk (hlt gv ⟨_, List.mem_of_getElem? hvk, rfl⟩) hszo hjl HD.out HU.out hm' hmr' hkg' hrow', by simp [RowKit.intOf]; omega⟩
        · obtain rfl : j = l.length := by omega
          have i3 : decide (((l.length : Nat) : Int) < (l.length : Int)) = false := decide_eq_false (by omega)
          have hnext : PutR w B vs ls (k + 1) wr := ⟨hkg, fun i l' hi => by
            obtain ⟨v, h1, h2⟩ := hrow i l' hi
            refine ⟨v, h1, ?_⟩
            by_cases hik : i = k
            · subst hik
              rw [hlk] at hi
              cases hi
              rw [if_pos rfl, List.drop_of_length_le (Nat.le_refl _), List.append_nil, List.take_of_length_le (by rw [hmr.1]; exact Nat.le_refl _)] at h2
              unfold RowR
              rw [if_pos (Nat.lt_succ_self _)]
              exact ⟨ms, h2, hmr.mono hszo⟩
            · rw [if_neg hik] at h2
              unfold RowR at h2 ⊢
              by_cases h3 : i < k
              · rw [if_pos h3] at h2
                rw [if_pos (by omega)]
                exact h2
              · rw [if_neg h3] at h2
                rw [if_neg (by omega)]
                exact h2⟩
          clear hkg hm hrow ha1 hp1 q0 hca hmr
          go_wp2_with fail
          exact ⟨⟨k + 1, by omega, by go_num, hnext⟩, by simp [RowKit.intOf]; omega⟩
    · obtain rfl : k = n := by omega
      have i3 : decide ((k : Int) < (k : Int)) = false := decide_eq_false (by omega)
      have hfin : ∀ (i : Nat) (l : List Value), ls[i]? = some l → ∃ v, vs[i]? = some v ∧ ∃ ms, wr.ownsRow B 66 1 v l.length ms ∧ MarkR w.heap.size wr i ms l.length := fun i l hi => by
        obtain ⟨v, h1, h2⟩ := hrow i l hi
        refine ⟨v, h1, ?_⟩
        unfold RowR at h2
        rw [if_pos (by have := (List.getElem?_eq_some_iff.1 hi).1; have := HN.out; omega)] at h2
        exact h2
      have HI := Lib.hid hfin
      clear hfin hrow
      rcases id ha1.2 with ⟨hae, hz⟩ | ⟨ga, ca, cur, hae, _⟩
      all_goals
        subst hae
        go_wp2_with fail
        first | go_end0 | refine bodyPost_ret (v := .tuple #[]) (by simp [results, Tryz.results69, go_sem]) rfl ?_
        exact ⟨rfl, hkg, HI.out⟩
end Go.Proofs.YtegigcneimjimaaGreatDoor
