/- ldif: what reads a change of a record. -/
import Derived.Test.YtehpdodjncabkaaDoorLdS
import Derived.Deep.AppendLies
namespace Go.Proofs.YtehpdodjncabkaaDoor
open Go.RowKit Go.Lib

def sV (ls : List (List UInt8)) : List Value := ls.map fun l => .string ⟨l.toArray⟩
theorem sV_length (ls : List (List UInt8)) : (sV ls).length = ls.length := by simp [sV]
theorem sV_append (a b : List (List UInt8)) : sV (a ++ b) = sV a ++ sV b := by simp [sV]
theorem Tryd.infoString : (Tryd.prog.info? 9).map (fun i => (i.zero, i.size, i.bytes)) = some (some (.string ⟨#[]⟩), 1, 16) := by kernel_rfl
/-- Below B all is as it was, but for block R. -/
structure BelowX (R B : Nat) (w w' : World) : Prop where
  os : w'.os = w.os
  tape : w'.tape = w.tape
  output : w'.output = w.output
  size : w.heap.size ≤ w'.heap.size
  block : ∀ j, j < B → j ≠ R → w'.heap[j]? = w.heap[j]?
theorem BelowX.refl (R B : Nat) (w : World) : BelowX R B w w := ⟨rfl, rfl, rfl, Nat.le_refl _, fun _ _ _ => rfl⟩
theorem BelowX.trans {R B : Nat} {a b c : World} (h : BelowX R B a b) (k : BelowX R B b c) : BelowX R B a c :=
  ⟨k.os.trans h.os, k.tape.trans h.tape, k.output.trans h.output, Nat.le_trans h.size k.size, fun j hj hne => (k.block j hj hne).trans (h.block j hj hne)⟩
theorem BelowX.mono {R B B' : Nat} {w w' : World} (h : BelowX R B w w') (hB : B' ≤ B) : BelowX R B' w w' := ⟨h.os, h.tape, h.output, h.size, fun j hj hne => h.block j (by omega) hne⟩
theorem BelowX.of_below {R B : Nat} {w w' : World} (h : Below B w w') : BelowX R B w w' := ⟨h.os, h.tape, h.output, h.size, fun j hj _ => h.block j hj⟩
theorem BelowX.of_grown {R B : Nat} {w w' : World} {row : Option Nat} (h : w.grownBy w' row) (hB : B ≤ w.heap.size) (hr : ∀ k, row = some k → k = R ∨ B ≤ k) : BelowX R B w w' :=
  ⟨h.os, h.tape, h.output, h.size, fun j hj hne => h.block j (by omega) (fun e => by rcases hr j e.symm with h | h <;> omega)⟩
def StrsN (B : Nat) (w : World) (u : Value) (vs : List (List UInt8)) : Prop :=
  ∃ a cap, u = .slice a vs.length cap ∧ vs.length ≤ cap ∧ (vs ≠ [] → ∃ g, a = some ⟨g, 0, none⟩ ∧ B ≤ g ∧ ∃ cur, w.heap[g]? = some (.cells cur 9 (0, 0)) ∧ cur.toList.take vs.length = sV vs)
theorem StrsN.own {B : Nat} {w : World} {u : Value} {vs : List (List UInt8)} (h : w.ownsRow B 9 1 u vs.length (sV vs)) : StrsN B w u vs := by
  rcases h.2 with ⟨rfl, h0⟩ | ⟨g, cap, cur, rfl, hb, hg, hc, _, _, ht⟩
  · have : vs = [] := List.length_eq_zero_iff.1 h0
    subst this
    exact ⟨none, 0, rfl, by simp, fun h => absurd rfl h⟩
  · exact ⟨some ⟨g, 0, none⟩, cap, rfl, hc, fun _ => ⟨g, rfl, hb, cur, hg, by simpa using ht⟩⟩
def modV (k : Int) (typ : List UInt8) (u : Value) : Value := .agg #[.int .i64 k, .string ⟨typ.toArray⟩, u]
def ModPost (R B : Nat) (w : World) (l : List Pr) (e : Ending) (w' : World) : Prop :=
  BelowX R w.heap.size w w' ∧ match modR l with
  | some (m, t) => ∃ u, e = .returned (.tuple #[modV m.1 m.2.1 u, .bool true]) ∧ RdAt w' R B t ∧ StrsN w.heap.size w' u m.2.2
  | none => ∃ k typ a n c, e = .returned (.tuple #[modV k typ (.slice a n c), .bool false])
def VR (R B M N : Nat) (w : World) (k : Int) (typ : List UInt8) (t : List Pr) (sv sis : Value) (wr : World) : Prop :=
  ∃ (vs : List (List UInt8)) (l0 : List Pr) (u : Value), sv = .string ⟨(nxV typ l0).toArray⟩ ∧ sis = .bool (nxB typ l0) ∧ valsR typ t = vs ++ valsR typ l0 ∧ leftR typ t = leftR typ l0 ∧ l0.length + vs.length ≤ t.length ∧ (∀ p ∈ l0, p.2.length ≤ 1000000000) ∧
    RdAt wr R B (nxL typ l0) ∧ wr.heap[M]? = some (.cells #[.int .i64 k, .string ⟨typ.toArray⟩, u] 53 (0, 0)) ∧ wr.heap[N]? = some (.cells #[.int .i64 0, .string ⟨#[]⟩, .slice none 0 0] 53 (0, 0)) ∧ wr.ownsRow N 9 1 u vs.length (sV vs) ∧ BelowX R N w wr
theorem valsR_cons (typ : List UInt8) (q : Pr) (r : List Pr) (h : q.1 = typ) : valsR typ (q :: r) = q.2 :: valsR typ r ∧ leftR typ (q :: r) = leftR typ r := by
  simp [valsR, leftR, h]
theorem valsR_stop (typ : List UInt8) (l : List Pr) (h : nxB typ l = false) : valsR typ l = [] ∧ leftR typ l = l ∧ nxL typ l = l := by
  cases l with
  | nil => exact ⟨rfl, rfl, rfl⟩
  | cons q r =>
    have h1 : (q.1 == typ) = false := h
    have h2 : ¬ q.1 = typ := by simpa using h1
    simp [valsR, leftR, nxL, h1, h2]
/-- How many lines a reader has left. -/
def lenP (R : Nat) (w : World) : Nat :=
  match w.cell? ⟨R, 0, none⟩ with
  | some (.slice _ n _) => n
  | _ => 0
def boolN (v : Value) : Nat := match v with | .bool true => 1 | _ => 0
theorem lenP_at {R B : Nat} {w : World} {l : List Pr} (h : RdAt w R B l) : lenP R w = l.length := by
  obtain ⟨v, hR, a, cap, rfl, _⟩ := h
  have : w.cell? ⟨R, 0, none⟩ = some (.slice a l.length cap) := by rw [Lib.cell_of_heap hR]; rfl
  simp [lenP, this]
theorem own_ne {w : World} {base e size n M : Nat} {v : Value} {xs : List Value} {cs : Array Value} {t : TypeId} {f : Nat × Nat} (h : w.ownsRow base e size v n xs) (hM : w.heap[M]? = some (.cells cs t f)) (hne : e ≠ t) : v.ownBlock ≠ some M := by
  intro hv
  rcases h.2 with ⟨rfl, _⟩ | ⟨g, cap, cur, rfl, _, hg, _⟩
  · cases hv
  · simp only [Value.ownBlock, Option.some.injEq] at hv
    subst hv
    rw [hg] at hM
    injection hM with hM
    injection hM with _ ht
    exact hne ht
theorem setCell_three {w : World} {M : Nat} {a b c u : Value} {t : TypeId} (h : w.heap[M]? = some (.cells #[a, b, c] t (0, 0))) : (w.setCell ⟨M, 2, none⟩ u).heap[M]? = some (.cells #[a, b, u] t (0, 0)) := by
  simp [World.setCell, Array.getElem?_modify, h]
theorem mod_cells {w : World} {N : Nat} {a b c : Value} (h : w.heap[N]? = some (.cells #[a, b, c] 53 (0, 0))) :
    w.cell? ⟨N, 0, none⟩ = some a ∧ w.cell? ⟨N, 1, none⟩ = some b ∧ w.cell? ⟨N, 2, none⟩ = some c ∧ w.frozen? ⟨N, 0, none⟩ = false ∧ w.frozen? ⟨N, 1, none⟩ = false ∧ w.frozen? ⟨N, 2, none⟩ = false :=
  ⟨by rw [Lib.cell_of_heap h]; rfl, by rw [Lib.cell_of_heap h]; rfl, by rw [Lib.cell_of_heap h]; rfl, Lib.frozen_of_heap h 0, Lib.frozen_of_heap h 1, Lib.frozen_of_heap h 2⟩
set_option maxRecDepth 100000 in
set_option maxHeartbeats 4000000 in
theorem mod_any (R B : Nat) (l : List Pr) (w : World) (h : RdAt w R B l) (hBw : B ≤ w.heap.size) (hn : ∀ p ∈ l, p.2.length ≤ 1000000000) (hl : l.length ≤ 1000000000) :
    Calls Tryd.prog 68 #[.pointer (some ⟨R, 0, none⟩)] w (ModPost R B w l) := by
  have hRlt : R < w.heap.size := by obtain ⟨v, hR, _⟩ := h; exact (Array.getElem?_eq_some_iff.1 hR).1
  obtain ⟨PR, hPR⟩ : ∃ P, ModPost R B w l = P := ⟨_, rfl⟩
  rw [hPR]
  have HPR := Lib.hid hPR
  have HN := Lib.hid hn
  clear hPR hn
  have hW : Below w.heap.size w (w.alloc (.cells #[.int .i64 0, .string ⟨#[]⟩, .slice none 0 0] 53)) := (Below.refl _ _).alloc (Nat.le_refl _) _
  have hWN : (w.alloc (.cells #[.int .i64 0, .string ⟨#[]⟩, .slice none 0 0] 53)).heap[w.heap.size]? = some (.cells #[.int .i64 0, .string ⟨#[]⟩, .slice none 0 0] 53 (0, 0)) := alloc_at _ _ _ rfl
  have hWs : (w.alloc (.cells #[.int .i64 0, .string ⟨#[]⟩, .slice none 0 0] 53)).heap.size = w.heap.size + 1 := by simp
  go_enter Tryd.func68, Tryd.ntmps68
  go_wp2_with fail
  generalize w.alloc (.cells #[.int .i64 0, .string ⟨#[]⟩, .slice none 0 0] 53) = w1 at hW hWN hWs ⊢
  have hR1 : RdAt w1 R B l := h.kept (fun j hj => hW.block j (by omega))
  clear h
  generalize hN : w.heap.size = N at hW hWN hWs hBw hRlt ⊢
  have HNN := Lib.hid hN
  clear hN
  go_loop [10] (fun i => ∃ k : Nat, i = .int .i64 (k : Int) ∧ k ≤ 3 ∧ ∀ j : Nat, j < k → nxB (opW j) l = false) (fun i => 3 - (RowKit.intOf i).toNat)
  case atStart => exact ⟨0, rfl, by omega, fun j hj => by omega⟩
  case round =>
    obtain ⟨k, rfl, hk, hno⟩ := hrel
    by_cases hk3 : k < 3
    · have ko := fun w' => opWord_any (k : Int) w' (by omega)
      have g1 : decide ((k : Int) < 3) = true := decide_eq_true (by omega)
      cases hb : nxB (opW k) l with
      | false =>
        have kn := fun w' hh => next_no R B (opW k) l w' hh hb
        have HB := Lib.hid hb
        obtain ⟨OP, hOP⟩ : ∃ O, opW (k : Int) = O := ⟨_, rfl⟩
        rw [hOP] at ko kn
        have HNO := Lib.hid hno
        clear hb hOP hno
        go_wp2_with (first | (go_at_call 50; refine Calls.mono (show Calls _ _ _ _ _ from ko _) ?_; rintro e w8 ⟨rfl, rfl⟩) | (go_at_call 66; refine Calls.mono (show Calls _ _ _ _ _ from kn _ hR1) ?_; rintro e w8 ⟨rfl, rfl⟩))
        go_round
        case rel =>
          refine ⟨k + 1, by go_num, by omega, fun j hj => ?_⟩
          by_cases hjk : j = k
          · rw [hjk]; exact HB.out
          · exact HNO.out j (by omega)
        case measure => simp [RowKit.intOf]; omega
      | true =>
        cases l with
        | nil => cases hb
        | cons p t =>
        have hp1 : p.1 = opW k := by simpa [nxB] using hb
        have en1 : nxV (opW k) (p :: t) = p.2 := by simp [nxV, hp1]
        have en2 : nxL (opW k) (p :: t) = t := by simp [nxL, hp1]
        have hmr : modR (p :: t) = if nxB [45] (leftR p.2 t) then some (((k : Int), p.2, valsR p.2 t), nxL [45] (leftR p.2 t)) else none := by
          simp only [modR, hp1, opI_W (k : Int) (by omega) (by omega)]
        have kn1 := next_any R B (opW k) (p :: t) w1 hR1 (by omega) HN.out hl
        rw [en1, en2, hb] at kn1
        have hnt : ∀ q ∈ t, q.2.length ≤ 1000000000 := fun q hq => HN.out q (by simp [hq])
        have htl : t.length ≤ 1000000000 := by simp at hl; omega
        obtain ⟨typ, htyp⟩ : ∃ x, p.2 = x := ⟨_, rfl⟩
        rw [htyp] at kn1 hmr
        obtain ⟨OP, hOP⟩ : ∃ O, opW (k : Int) = O := ⟨_, rfl⟩
        rw [hOP] at ko kn1
        have HMR := Lib.hid hmr
        have HNT := Lib.hid hnt
        clear hb hOP hno hp1 en1 en2 hmr htyp hnt
        go_wp2_with (go_at_call 50; refine Calls.mono (show Calls _ _ _ _ _ from ko _) ?_; rintro e w8 ⟨rfl, rfl⟩)
        refine Calls.mono (show Calls _ _ _ _ _ from kn1) ?_
        rintro e w2 ⟨rfl, hR2, hg2⟩
        have hx2 : BelowX R N w w2 := (BelowX.of_below hW).trans (BelowX.of_grown hg2 (by omega) (fun k e => .inl (by cases e; rfl)))
        have hWN2 : w2.heap[N]? = some (.cells #[.int .i64 0, .string ⟨#[]⟩, .slice none 0 0] 53 (0, 0)) := (hg2.block N (by omega) (fun e => by injection e with e; omega)).trans hWN
        have hs2 : N + 1 ≤ w2.heap.size := by have := hg2.size; omega
        have hW3 : Below w2.heap.size w2 (w2.alloc (.cells #[.int .i64 (k : Int), .string ⟨typ.toArray⟩, .slice none 0 0] 53)) := (Below.refl _ _).alloc (Nat.le_refl _) _
        have hM3 : (w2.alloc (.cells #[.int .i64 (k : Int), .string ⟨typ.toArray⟩, .slice none 0 0] 53)).heap[w2.heap.size]? = some (.cells #[.int .i64 (k : Int), .string ⟨typ.toArray⟩, .slice none 0 0] 53 (0, 0)) := alloc_at _ _ _ rfl
        go_wp2_with fail
        generalize w2.alloc (.cells #[.int .i64 (k : Int), .string ⟨typ.toArray⟩, .slice none 0 0] 53) = w3 at hW3 hM3 ⊢
        generalize hM : w2.heap.size = M at hW3 hM3 hs2 ⊢
        have hR3 : RdAt w3 R B t := hR2.kept (fun j hj => hW3.block j (by omega))
        have hx3 : BelowX R N w w3 := hx2.trans (BelowX.of_below (hW3.mono (by omega)))
        have hN3 : w3.heap[N]? = some (.cells #[.int .i64 0, .string ⟨#[]⟩, .slice none 0 0] 53 (0, 0)) := (hW3.block N (by omega)).trans hWN2
        have hs3 : M < w3.heap.size := (Array.getElem?_eq_some_iff.1 hM3).1
        clear hM hW3 hR2 hWN2 hx2 hg2 hW hWN hWs hR1
        refine Calls.mono (next_any R B typ t w3 hR3 (by omega) HNT.out htl) ?_
        rintro e w4 ⟨rfl, hR4, hg4⟩
        have hM4 := (hg4.block M hs3 (fun e => by injection e with e; omega)).trans hM3
        have hN4 := (hg4.block N (by omega) (fun e => by injection e with e; omega)).trans hN3
        have hx4 : BelowX R N w w4 := hx3.trans (BelowX.of_grown hg4 (by omega) (fun k e => .inl (by cases e; rfl)))
        have hs4 : M < w4.heap.size := Nat.lt_of_lt_of_le hs3 hg4.size
        clear hM3 hN3 hx3 hg4 hs3
        obtain ⟨i0, hi0, hz0, hz1, hz2⟩ := info_parts Tryd.infoString
        go_wp2_with fail
        go_loopw [8, 9] (fun sv sis wr => VR R B M N w k typ t sv sis wr ∧ M < wr.heap.size) (fun sv sis wr => lenP R wr + boolN sis)
        case atStart => exact ⟨⟨[], t, .slice none 0 0, rfl, rfl, rfl, rfl, by simp, HNT.out, hR4, hM4, hN4, World.ownsRow_nil _ _ _ _, hx4⟩, hs4⟩
        case round =>
          obtain ⟨⟨vs, l0, u, rfl, rfl, hv1, hv2, hv3, hv4, hRr, hMr, hNr, hor, hxr⟩, hsr⟩ := hrel
          have hlp := lenP_at hRr
          cases hb : nxB typ l0 with
          | true =>
            cases l0 with
            | nil => cases hb
            | cons q r =>
            have hq1 : q.1 = typ := by simpa [nxB] using hb
            have en1 : nxV typ (q :: r) = q.2 := by simp [nxV, hq1]
            have en2 : nxL typ (q :: r) = r := by simp [nxL, hq1]
            obtain ⟨hc1, hc2⟩ := valsR_cons typ q r hq1
            rw [en1]
            rw [en2] at hRr hlp
            have HLP := Lib.hid hlp
            have HV1 := Lib.hid (hv1.trans (by rw [hc1] : vs ++ valsR typ (q :: r) = vs ++ q.2 :: valsR typ r))
            have HV2 := Lib.hid (hv2.trans hc2)
            have hq2 := hv4 q (by simp)
            have HV4 := Lib.hid (fun x hx => hv4 x (by simp [hx]) : ∀ x ∈ r, x.2.length ≤ 1000000000)
            have hv3' : r.length + 1 + vs.length ≤ t.length := by simpa using hv3
            obtain ⟨e0, e1, e2, f0, f1, f2⟩ := mod_cells hMr
            have hneM : u.ownBlock ≠ some M := own_ne hor hMr (by decide)
            have hneN : u.ownBlock ≠ some N := own_ne hor hNr (by decide)
            have hneR : u.ownBlock ≠ some R := by
              intro hv
              have := (hor.lt R hv).1
              omega
            have hol := hor.lt
            clear hb hq1 en1 en2 hc1 hc2 hv1 hv2 hv3 hv4 hlp
            go_wp2_with (at_builtin; refine wpList_append_lies _ rfl (.tmp 39) (.tmp 41) 29 rfl N 9 i0 (.string ⟨#[]⟩) 1 16 Tryd.underlying29 hi0 hz0 hz1 hz2 rfl (by omega) u vs.length (sV vs) rfl (hor.alloc _) ⟨wr.heap.size, 0, none⟩ 1 1 [.string ⟨q.2.toArray⟩] rfl rfl (cell_one_new _ _ _) ?d2 (by omega) ?d3 ?d4 ?d5 (wr.heap.size + 1) (by simp) ?_)
            case d2 => intro x hx; simp at hx; subst hx; rfl
            case d3 => unfold maxLen; omega
            case d4 => omega
            case d5 => simp; omega
            intro g5 cap5 w5 ho5 hg5 hat5 hlt5
            have hlr : M < (wr.alloc (.cells #[.string ⟨q.2.toArray⟩] 9)).heap.size := by simp; omega
            have hkeep : ∀ j, j < wr.heap.size → some j ≠ u.ownBlock → w5.heap[j]? = wr.heap[j]? := fun j hj hne => (hg5.block j (by simp; omega) hne).trans (Lib.alloc_old _ _ _ hj)
            have hM5 := (hkeep M hsr (fun e => hneM e.symm)).trans hMr
            have hN5 := (hkeep N (by omega) (fun e => hneN e.symm)).trans hNr
            have hR5 : RdAt w5 R B r := by
              refine hRr.kept (fun j hj => hkeep j (by omega) (fun e => ?_))
              rcases hj with hj | hj
              · have := (hol j e.symm).1
                omega
              · subst hj
                exact hneR e.symm
            have hx5 : BelowX R N w w5 := (hxr.trans (BelowX.of_below ((Below.refl _ _).alloc (by omega) _))).trans (BelowX.of_grown hg5 (by omega) (fun k hk => .inr (hol k hk).1))
            have hs5 : M < w5.heap.size := (Array.getElem?_eq_some_iff.1 hM5).1
            obtain ⟨d0, d1, d2, z0, z1, z2⟩ := mod_cells hM5
            clear e0 e1 e2 f0 f1 f2
            go_wp2_with fail
            have hM6 := setCell_three (u := .slice (some ⟨g5, 0, none⟩) (vs.length + 1) cap5) hM5
            have hb6 : Below M w5 (w5.setCell ⟨M, 2, none⟩ (.slice (some ⟨g5, 0, none⟩) (vs.length + 1) cap5)) := (Below.refl _ _).setCell (p := ⟨M, 2, none⟩) (Nat.le_refl _) _
            have hs6 : w5.heap.size = (w5.setCell ⟨M, 2, none⟩ (.slice (some ⟨g5, 0, none⟩) (vs.length + 1) cap5)).heap.size := by simp
            have hne5 : (Value.slice (some ⟨g5, 0, none⟩) (vs.length + 1) cap5).ownBlock ≠ some M := own_ne ho5 hM5 (by decide)
            have ho6 := ho5.kept (grown_set w5 M 2 (.slice (some ⟨g5, 0, none⟩) (vs.length + 1) cap5)) (.inr hne5)
            generalize w5.setCell ⟨M, 2, none⟩ (.slice (some ⟨g5, 0, none⟩) (vs.length + 1) cap5) = w6 at hM6 hb6 hs6 ho6 ⊢
            clear d0 d1 d2 z0 z1 z2
            have hR6 : RdAt w6 R B r := hR5.kept (fun j hj => hb6.block j (by omega))
            have hN6 := (hb6.block N (by omega)).trans hN5
            have hx6 := hx5.trans (BelowX.of_below (hb6.mono (by omega)))
            refine Calls.mono (next_any R B typ r w6 hR6 (by omega) HV4.out (by omega)) ?_
            rintro e w7 ⟨rfl, hR7, hg7⟩
            have hM7 := (hg7.block M (by omega) (fun e => by injection e with e; omega)).trans hM6
            have hN7 := (hg7.block N (by omega) (fun e => by injection e with e; omega)).trans hN6
            have hx7 : BelowX R N w w7 := hx6.trans (BelowX.of_grown hg7 (by omega) (fun k e => .inl (by cases e; rfl)))
            have hs7 : M < w7.heap.size := by have := hg7.size; omega
            have ho7 := ho6.kept hg7 (.inr (by intro hv; have := (ho6.lt R hv).1; omega))
            have hl7 := lenP_at hR7
            have HL7 := Lib.hid hl7
            clear hl7
            go_wp2_with fail
            go_roundw
            case rel =>
              refine ⟨⟨vs ++ [q.2], r, .slice (some ⟨g5, 0, none⟩) (vs.length + 1) cap5, rfl, rfl, ?_, HV2.out, ?_, HV4.out, hR7, hM7, hN7, ?_, hx7⟩, hs7⟩
              · rw [HV1.out]; simp
              · simp; omega
              · rw [sV_append, List.length_append]; exact ho7
            case measure =>
              have h1 := HL7.out
              have h2 := HLP.out
              cases hbr : nxB typ r with
              | true =>
                have : (nxL typ r).length + 1 = r.length := by
                  cases r with
                  | nil => cases hbr
                  | cons y r' =>
                    have : y.1 = typ := by simpa [nxB] using hbr
                    simp [nxL, this]
                simp [h1, h2, boolN]
                omega
              | false =>
                have h3 := (valsR_stop typ r hbr).2.2
                simp [h1, h2, h3, boolN]
          | false =>
            obtain ⟨hc1, hc2, hc3⟩ := valsR_stop typ l0 hb
            rw [hc3] at hRr
            rw [hc1, List.append_nil] at hv1
            rw [hc2] at hv2
            have HV1 := Lib.hid hv1
            have HV2 := Lib.hid hv2
            have HV4 := Lib.hid hv4
            have hv3' : l0.length ≤ t.length := by omega
            clear hb hc1 hc2 hc3 hv1 hv2 hv3 hv4 hlp
            go_wp2_with fail
            refine Calls.mono (next_any R B [45] l0 wr hRr (by omega) HV4.out (by omega)) ?_
            rintro e w7 ⟨rfl, hR7, hg7⟩
            have hM7 := (hg7.block M (by omega) (fun e => by injection e with e; omega)).trans hMr
            have hN7 := (hg7.block N (by omega) (fun e => by injection e with e; omega)).trans hNr
            have hx7 : BelowX R N w w7 := hxr.trans (BelowX.of_grown hg7 (by omega) (fun k e => .inl (by cases e; rfl)))
            have ho7 := hor.kept hg7 (.inr (by intro hv; have := (hor.lt R hv).1; omega))
            obtain ⟨d0, d1, d2, _, _, _⟩ := mod_cells hM7
            obtain ⟨e0, e1, e2, f0, f1, f2⟩ := mod_cells hN7
            obtain ⟨au, cu, rfl⟩ : ∃ au cu, u = .slice au vs.length cu := by
              rcases hor.2 with ⟨rfl, h0⟩ | ⟨g, cap, cur, rfl, _⟩
              · exact ⟨none, 0, by rw [h0]⟩
              · exact ⟨_, _, rfl⟩
            obtain ⟨BB, hBB⟩ : ∃ b, nxB [45] l0 = b := ⟨_, rfl⟩
            rw [hBB]
            have HBB := Lib.hid hBB
            have hneN : (Value.slice au vs.length cu).ownBlock ≠ some N := own_ne hor hNr (by decide)
            clear hBB
            go_wp2_with fail
            refine bodyPost_ret (v := .tuple #[modV k typ (.slice au vs.length cu), .bool BB]) (by simp [results, Tryd.results68, go_sem, e0, e1, e2, modV]) rfl ?_
            rw [← HPR.out]
            have hb8 : Below N w7 (((w7.setCell ⟨N, 0, none⟩ (.int .i64 (k : Int))).setCell ⟨N, 1, none⟩ (.string ⟨typ.toArray⟩)).setCell ⟨N, 2, none⟩ (.slice au vs.length cu)) :=
              (((Below.refl N w7).setCell (p := ⟨N, 0, none⟩) (Nat.le_refl _) _).setCell (p := ⟨N, 1, none⟩) (Nat.le_refl _) _).setCell (p := ⟨N, 2, none⟩) (Nat.le_refl _) _
            have ho8 := ((ho7.kept (grown_set w7 N 0 (.int .i64 (k : Int))) (.inr hneN)).kept (grown_set _ N 1 (.string ⟨typ.toArray⟩)) (.inr hneN)).kept (grown_set _ N 2 (.slice au vs.length cu)) (.inr hneN)
            refine ⟨by rw [HNN.out]; exact hx7.trans (BelowX.of_below hb8), ?_⟩
            have hm := HMR.out
            rw [HV2.out, HV1.out, HBB.out] at hm
            rw [hm]
            cases BB with
            | true =>
              refine ⟨_, rfl, hR7.kept (fun j hj => ?_), by rw [HNN.out]; exact StrsN.own ho8⟩
              refine hb8.block j ?_
              omega
            | false => exact ⟨_, _, _, _, _, rfl⟩
    · obtain rfl : k = 3 := by omega
      have g1 : decide ((3 : Int) < 3) = false := by decide
      have HNO := Lib.hid hno
      obtain ⟨e0, e1, e2, f0, f1, f2⟩ := mod_cells hWN
      clear hno
      go_wp2_with fail
      refine bodyPost_ret (v := .tuple #[modV 0 [] (.slice none 0 0), .bool false]) (by simp [results, Tryd.results68, go_sem, e0, e1, e2, modV]) rfl ?_
      rw [← HPR.out]
      have hnone : modR l = none := by
        cases l with
        | nil => rfl
        | cons p t =>
          have h0 : nxB (opW 0) (p :: t) = false := HNO.out 0 (by omega)
          have h1 : nxB (opW 1) (p :: t) = false := HNO.out 1 (by omega)
          have h2 : nxB (opW 2) (p :: t) = false := HNO.out 2 (by omega)
          simp only [nxB, beq_eq_false_iff_ne] at h0 h1 h2
          have : opI p.1 = none := by
            unfold opI
            rw [if_neg h0, if_neg h1, if_neg h2]
          simp [modR, this]
      unfold ModPost
      rw [hnone]
      exact ⟨by rw [HNN.out]; exact BelowX.of_below (((hW.setCell (p := ⟨N, 0, none⟩) (Nat.le_refl _) _).setCell (p := ⟨N, 1, none⟩) (Nat.le_refl _) _).setCell (p := ⟨N, 2, none⟩) (Nat.le_refl _) _), 0, [], none, 0, 0, rfl⟩
end Go.Proofs.YtehpdodjncabkaaDoor
