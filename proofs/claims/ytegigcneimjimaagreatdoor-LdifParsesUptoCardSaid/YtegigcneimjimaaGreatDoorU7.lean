/- LdT, LdV. -/
import Derived.Deep.AppendLies
import Derived.Test.YtegigcneimjimaaGreatDoorU6
namespace Go.Proofs.YtegigcneimjimaaGreatDoor
open Go.RowKit Go.Lib
set_option maxRecDepth 100000
set_option maxHeartbeats 16000000
def sV (ls : List (List UInt8)) : List Value := ls.map fun l => .string ⟨l.toArray⟩
theorem sV_length (ls : List (List UInt8)) : (sV ls).length = ls.length := by simp [sV]
theorem sV_append (a b : List (List UInt8)) : sV (a ++ b) = sV a ++ sV b := by simp [sV]
theorem Tryz.infoString : (Tryz.prog.info? 9).map (fun i => (i.zero, i.size, i.bytes)) = some (some (.string ⟨#[]⟩), 1, 16) := by kernel_rfl
structure BelowX (R B : Nat) (w w' : World) : Prop where
  os : w'.os = w.os
  tape : w'.tape = w.tape
  output : w'.output = w.output
  size : w.heap.size ≤ w'.heap.size
  block : ∀ j, j < B → j ≠ R → w'.heap[j]? = w.heap[j]?
theorem BelowX.refl (R B : Nat) (w : World) : BelowX R B w w := ⟨rfl, rfl, rfl, Nat.le_refl _, fun _ _ _ => rfl⟩
theorem BelowX.trans {R B : Nat} {a b c : World} (h : BelowX R B a b) (k : BelowX R B b c) : BelowX R B a c :=
  ⟨k.os.trans h.os, k.tape.trans h.tape, k.output.trans h.output, Nat.le_trans h.size k.size, fun j hj hne => (k.block j hj hne).trans (h.block j hj hne)⟩
theorem BelowX.mono {R B B' : Nat} {w w' : World} (h : BelowX R B w w') (hB : B' ≤ B) : BelowX R B' w w' := ⟨h.os, h.tape, h.output, h.size, fun j hj hne => h.block j (by omega) hne⟩
theorem BelowX.of_below {R B : Nat} {w w' : World} (h : Below B w w') : BelowX R B w w' := ⟨h.os, h.tape, h.output, h.size, fun j hj _ => h.block j hj⟩
theorem BelowX.of_grown {R B : Nat} {w w' : World} {row : Option Nat} (h : w.grownBy w' row) (hB : B ≤ w.heap.size) (hr : ∀ k, row = some k → k = R ∨ B ≤ k) : BelowX R B w w' :=
  ⟨h.os, h.tape, h.output, h.size, fun j hj hne => h.block j (by omega) (fun e => by rcases hr j e.symm with h | h <;> omega)⟩
def StrsN (B : Nat) (w : World) (u : Value) (vs : List (List UInt8)) : Prop := w.ownsRow B 9 1 u vs.length (sV vs)
theorem StrsN.own {B : Nat} {w : World} {u : Value} {vs : List (List UInt8)} (h : w.ownsRow B 9 1 u vs.length (sV vs)) : StrsN B w u vs := h
def modV (k : Int) (typ : List UInt8) (u : Value) : Value := .agg #[.int .i64 k, .string ⟨typ.toArray⟩, u]
def ModPost (R B : Nat) (w : World) (l : List Pr) (e : Ending) (w' : World) : Prop :=
  BelowX R w.heap.size w w' ∧ match modR l with
  | some (m, t) => ∃ u, e = .returned (.tuple #[modV m.1 m.2.1 u, .bool true]) ∧ RdAt w' R B t ∧ StrsN w.heap.size w' u m.2.2
  | none => ∃ k typ a n c, e = .returned (.tuple #[modV k typ (.slice a n c), .bool false])
def VR (R B M N : Nat) (w : World) (k : Int) (typ : List UInt8) (t : List Pr) (sv sis : Value) (wr : World) : Prop :=
  ∃ (vs : List (List UInt8)) (l0 : List Pr) (u : Value), sv = .string ⟨(nxV typ l0).toArray⟩ ∧ sis = .bool (nxB typ l0) ∧ valsR typ t = vs ++ valsR typ l0 ∧ leftR typ t = leftR typ l0 ∧ l0.length + vs.length ≤ t.length ∧ (∀ p ∈ l0, p.2.length ≤ 1000000000) ∧
    RdAt wr R B (nxL typ l0) ∧ wr.heap[M]? = some (.cells #[.int .i64 k, .string ⟨typ.toArray⟩, u] 182 (0, 0)) ∧ wr.heap[N]? = some (.cells #[.int .i64 0, .string ⟨#[]⟩, .slice none 0 0] 182 (0, 0)) ∧ wr.ownsRow N 9 1 u vs.length (sV vs) ∧ BelowX R N w wr
theorem valsR_cons (typ : List UInt8) (q : Pr) (r : List Pr) (h : q.1 = typ) : valsR typ (q :: r) = q.2 :: valsR typ r ∧ leftR typ (q :: r) = leftR typ r := by
  simp [valsR, leftR, h]
theorem valsR_stop (typ : List UInt8) (l : List Pr) (h : nxB typ l = false) : valsR typ l = [] ∧ leftR typ l = l ∧ nxL typ l = l := by
  cases l with
  | nil => exact ⟨rfl, rfl, rfl⟩
  | cons q r =>
    have h1 : (q.1 == typ) = false := h
    have h2 : ¬ q.1 = typ := by simpa using h1
    simp [valsR, leftR, nxL, h1, h2]
def lenP (R : Nat) (w : World) : Nat :=
  match w.cell? ⟨R, 0, none⟩ with
  | some (.slice _ n _) => n
  | _ => 0
def boolN (v : Value) : Nat := match v with | .bool true => 1 | _ => 0
theorem lenP_at {R B : Nat} {w : World} {l : List Pr} (h : RdAt w R B l) : lenP R w = l.length := by
  obtain ⟨v, hR, a, cap, rfl, _⟩ := h
  have : w.cell? ⟨R, 0, none⟩ = some (.slice a l.length cap) := by rw [Lib.cell_of_heap hR]; rfl
  simp [lenP, this]
theorem own_ne {w : World} {base e size n M : Nat} {v : Value} {xs : List Value} {cs : Array Value} {t : TypeId} {f : Nat × Nat} (h : w.ownsRow base e size v n xs) (hM : w.heap[M]? = some (.cells cs t f)) (hne : e ≠ t) : v.ownBlock ≠ some M := by
  intro hv
  rcases h.2 with ⟨rfl, _⟩ | ⟨g, cap, cur, rfl, _, hg, _⟩
  · cases hv
  · simp only [Value.ownBlock, Option.some.injEq] at hv
    subst hv
    rw [hg] at hM
    injection hM with hM
    injection hM with _ ht
    exact hne ht
theorem setCell_three {w : World} {M : Nat} {a b c u : Value} {t : TypeId} (h : w.heap[M]? = some (.cells #[a, b, c] t (0, 0))) : (w.setCell ⟨M, 2, none⟩ u).heap[M]? = some (.cells #[a, b, u] t (0, 0)) := by
  simp [World.setCell, Array.getElem?_modify, h]
theorem mod_cells {w : World} {N : Nat} {a b c : Value} (h : w.heap[N]? = some (.cells #[a, b, c] 182 (0, 0))) :
    w.cell? ⟨N, 0, none⟩ = some a ∧ w.cell? ⟨N, 1, none⟩ = some b ∧ w.cell? ⟨N, 2, none⟩ = some c ∧ w.frozen? ⟨N, 0, none⟩ = false ∧ w.frozen? ⟨N, 1, none⟩ = false ∧ w.frozen? ⟨N, 2, none⟩ = false :=
  ⟨by rw [Lib.cell_of_heap h]; rfl, by rw [Lib.cell_of_heap h]; rfl, by rw [Lib.cell_of_heap h]; rfl, Lib.frozen_of_heap h 0, Lib.frozen_of_heap h 1, Lib.frozen_of_heap h 2⟩
theorem mod_any (R B : Nat) (l : List Pr) (w : World) (h : RdAt w R B l) (hBw : B ≤ w.heap.size) (hn : ∀ p ∈ l, p.2.length ≤ 1000000000) (hl : l.length ≤ 1000000000) :
    Calls Tryz.prog 146 #[.pointer (some ⟨R, 0, none⟩)] w (ModPost R B w l) := by
  have hRlt : R < w.heap.size := by obtain ⟨v, hR, _⟩ := h; exact (Array.getElem?_eq_some_iff.1 hR).1
  obtain ⟨PR, hPR⟩ : ∃ P, ModPost R B w l = P := ⟨_, rfl⟩
  rw [hPR]
  have HPR := Lib.hid hPR
  have HN := Lib.hid hn
  clear hPR hn
  have hW : Below w.heap.size w (w.alloc (.cells #[.int .i64 0, .string ⟨#[]⟩, .slice none 0 0] 182)) := (Below.refl _ _).alloc (Nat.le_refl _) _
  have hWN : (w.alloc (.cells #[.int .i64 0, .string ⟨#[]⟩, .slice none 0 0] 182)).heap[w.heap.size]? = some (.cells #[.int .i64 0, .string ⟨#[]⟩, .slice none 0 0] 182 (0, 0)) := alloc_at _ _ _ rfl
  have hWs : (w.alloc (.cells #[.int .i64 0, .string ⟨#[]⟩, .slice none 0 0] 182)).heap.size = w.heap.size + 1 := by simp
  go_enter Tryz.func146, Tryz.ntmps146
  go_wp2_with fail
  generalize w.alloc (.cells #[.int .i64 0, .string ⟨#[]⟩, .slice none 0 0] 182) = w1 at hW hWN hWs ⊢
  have hR1 : RdAt w1 R B l := h.kept (fun j hj => hW.block j (by omega))
  clear h
  generalize hN : w.heap.size = N at hW hWN hWs hBw hRlt ⊢
  have HNN := Lib.hid hN
  clear hN
  go_loop [10] (fun i => ∃ k : Nat, i = .int .i64 (k : Int) ∧ k ≤ 3 ∧ ∀ j : Nat, j < k → nxB (opW j) l = false) (fun i => 3 - (RowKit.intOf i).toNat)
  case atStart => exact ⟨0, rfl, by omega, fun j hj => by omega⟩
  case round =>
    obtain ⟨k, rfl, hk, hno⟩ := hrel
    by_cases hk3 : k < 3
    · have ko := fun w' => opWord_any (k : Int) w' (by omega)
      have g1 : decide ((k : Int) < 3) = true := decide_eq_true (by omega)
      cases hb : nxB (opW k) l with
      | false =>
        have kn := fun w' hh => next_no R B (opW k) l w' hh hb
        have HB := Lib.hid hb
        obtain ⟨OP, hOP⟩ : ∃ O, opW (k : Int) = O := ⟨_, rfl⟩
        rw [hOP] at ko kn
        have HNO := Lib.hid hno
        clear hb hOP hno
        go_wp2_with (first | (go_at_call 221; refine Calls.mono (show Calls _ _ _ _ _ from ko _) ?_; rintro e w8 ⟨rfl, rfl⟩) | (go_at_call 144; refine Calls.mono (show Calls _ _ _ _ _ from kn _ hR1) ?_; rintro e w8 ⟨rfl, rfl⟩))
        go_round
        case rel =>
          refine ⟨k + 1, by go_num, by omega, fun j hj => ?_⟩
          by_cases hjk : j = k
          · rw [hjk]; exact HB.out
          · exact HNO.out j (by omega)
        case measure => simp [RowKit.intOf]; omega
      | true =>
        cases l with
        | nil => cases hb
        | cons p t =>
        have hp1 : p.1 = opW k := by simpa [nxB] using hb
        have en1 : nxV (opW k) (p :: t) = p.2 := by simp [nxV, hp1]
        have en2 : nxL (opW k) (p :: t) = t := by simp [nxL, hp1]
        have hmr : modR (p :: t) = if nxB [45] (leftR p.2 t) then some (((k : Int), p.2, valsR p.2 t), nxL [45] (leftR p.2 t)) else none := by
          simp only [modR, hp1, opI_W (k : Int) (by omega) (by omega)]
        have kn1 := next_any R B (opW k) (p :: t) w1 hR1 (by omega) HN.out hl
        rw [en1, en2, hb] at kn1
        have hnt : ∀ q ∈ t, q.2.length ≤ 1000000000 := fun q hq => HN.out q (by simp [hq])
        have htl : t.length ≤ 1000000000 := by simp at hl; omega
        obtain ⟨typ, htyp⟩ : ∃ x, p.2 = x := ⟨_, rfl⟩
        rw [htyp] at kn1 hmr
        obtain ⟨OP, hOP⟩ : ∃ O, opW (k : Int) = O := ⟨_, rfl⟩
        rw [hOP] at ko kn1
        have HMR := Lib.hid hmr
        have HNT := Lib.hid hnt
        clear hb hOP hno hp1 en1 en2 hmr htyp hnt
        go_wp2_with (go_at_call 221; refine Calls.mono (show Calls _ _ _ _ _ from ko _) ?_; rintro e w8 ⟨rfl, rfl⟩)
        refine Calls.mono (show Calls _ _ _ _ _ from kn1) ?_
        rintro e w2 ⟨rfl, hR2, hg2⟩
        have hx2 : BelowX R N w w2 := (BelowX.of_below hW).trans (BelowX.of_grown hg2 (by omega) (fun k e => .inl (by cases e; rfl)))
        have hWN2 : w2.heap[N]? = some (.cells #[.int .i64 0, .string ⟨#[]⟩, .slice none 0 0] 182 (0, 0)) := (hg2.block N (by omega) (fun e => by injection e with e; omega)).trans hWN
        have hs2 : N + 1 ≤ w2.heap.size := by have := hg2.size; omega
        have hW3 : Below w2.heap.size w2 (w2.alloc (.cells #[.int .i64 (k : Int), .string ⟨typ.toArray⟩, .slice none 0 0] 182)) := (Below.refl _ _).alloc (Nat.le_refl _) _
        have hM3 : (w2.alloc (.cells #[.int .i64 (k : Int), .string ⟨typ.toArray⟩, .slice none 0 0] 182)).heap[w2.heap.size]? = some (.cells #[.int .i64 (k : Int), .string ⟨typ.toArray⟩, .slice none 0 0] 182 (0, 0)) := alloc_at _ _ _ rfl
        go_wp2_with fail
        generalize w2.alloc (.cells #[.int .i64 (k : Int), .string ⟨typ.toArray⟩, .slice none 0 0] 182) = w3 at hW3 hM3 ⊢
        generalize hM : w2.heap.size = M at hW3 hM3 hs2 ⊢
        have hR3 : RdAt w3 R B t := hR2.kept (fun j hj => hW3.block j (by omega))
        have hx3 : BelowX R N w w3 := hx2.trans (BelowX.of_below (hW3.mono (by omega)))
        have hN3 : w3.heap[N]? = some (.cells #[.int .i64 0, .string ⟨#[]⟩, .slice none 0 0] 182 (0, 0)) := (hW3.block N (by omega)).trans hWN2
        have hs3 : M < w3.heap.size := (Array.getElem?_eq_some_iff.1 hM3).1
        clear hM hW3 hR2 hWN2 hx2 hg2 hW hWN hWs hR1
        refine Calls.mono (next_any R B typ t w3 hR3 (by omega) HNT.out htl) ?_
        rintro e w4 ⟨rfl, hR4, hg4⟩
        have hM4 := (hg4.block M hs3 (fun e => by injection e with e; omega)).trans hM3
        have hN4 := (hg4.block N (by omega) (fun e => by injection e with e; omega)).trans hN3
        have hx4 : BelowX R N w w4 := hx3.trans (BelowX.of_grown hg4 (by omega) (fun k e => .inl (by cases e; rfl)))
        have hs4 : M < w4.heap.size := Nat.lt_of_lt_of_le hs3 hg4.size
        clear hM3 hN3 hx3 hg4 hs3
        obtain ⟨i0, hi0, hz0, hz1, hz2⟩ := info_parts Tryz.infoString
        go_wp2_with fail
        go_loopw [8, 9] (fun sv sis wr => VR R B M N w k typ t sv sis wr ∧ M < wr.heap.size) (fun sv sis wr => lenP R wr + boolN sis)
        case atStart => exact ⟨⟨[], t, .slice none 0 0, rfl, rfl, rfl, rfl, by simp, HNT.out, hR4, hM4, hN4, World.ownsRow_nil _ _ _ _, hx4⟩, hs4⟩
        case round =>
          obtain ⟨⟨vs, l0, u, rfl, rfl, hv1, hv2, hv3, hv4, hRr, hMr, hNr, hor, hxr⟩, hsr⟩ := hrel
          have hlp := lenP_at hRr
          cases hb : nxB typ l0 with
          | true =>
            cases l0 with
            | nil => cases hb
            | cons q r =>
            have hq1 : q.1 = typ := by simpa [nxB] using hb
            have en1 : nxV typ (q :: r) = q.2 := by simp [nxV, hq1]
            have en2 : nxL typ (q :: r) = r := by simp [nxL, hq1]
            obtain ⟨hc1, hc2⟩ := valsR_cons typ q r hq1
            rw [en1]
            rw [en2] at hRr hlp
            have HLP := Lib.hid hlp
            have HV1 := Lib.hid (hv1.trans (by rw [hc1] : vs ++ valsR typ (q :: r) = vs ++ q.2 :: valsR typ r))
            have HV2 := Lib.hid (hv2.trans hc2)
            have hq2 := hv4 q (by simp)
            have HV4 := Lib.hid (fun x hx => hv4 x (by simp [hx]) : ∀ x ∈ r, x.2.length ≤ 1000000000)
            have hv3' : r.length + 1 + vs.length ≤ t.length := by simpa using hv3
            obtain ⟨e0, e1, e2, f0, f1, f2⟩ := mod_cells hMr
            have hneM : u.ownBlock ≠ some M := own_ne hor hMr (by decide)
            have hneN : u.ownBlock ≠ some N := own_ne hor hNr (by decide)
            have hneR : u.ownBlock ≠ some R := by
              intro hv
              have := (hor.lt R hv).1
              omega
            have hol := hor.lt
            clear hb hq1 en1 en2 hc1 hc2 hv1 hv2 hv3 hv4 hlp
            go_wp2_with (at_builtin; refine wpList_append_lies _ rfl (.tmp 39) (.tmp 41) 58 rfl N 9 i0 (.string ⟨#[]⟩) 1 16 Tryz.underlying58 hi0 hz0 hz1 hz2 rfl (by omega) u vs.length (sV vs) rfl (hor.alloc _) ⟨wr.heap.size, 0, none⟩ 1 1 [.string ⟨q.2.toArray⟩] rfl rfl (cell_one_new _ _ _) ?d2 (by omega) ?d3 ?d4 ?d5 (wr.heap.size + 1) (by simp) ?_)
            case d2 => intro x hx; simp at hx; subst hx; rfl
            case d3 => unfold maxLen; omega
            case d4 => omega
            case d5 => simp; omega
            intro g5 cap5 w5 ho5 hg5 hat5 hlt5
            have hlr : M < (wr.alloc (.cells #[.string ⟨q.2.toArray⟩] 9)).heap.size := by simp; omega
            have hkeep : ∀ j, j < wr.heap.size → some j ≠ u.ownBlock → w5.heap[j]? = wr.heap[j]? := fun j hj hne => (hg5.block j (by simp; omega) hne).trans (Lib.alloc_old _ _ _ hj)
            have hM5 := (hkeep M hsr (fun e => hneM e.symm)).trans hMr
            have hN5 := (hkeep N (by omega) (fun e => hneN e.symm)).trans hNr
            have hR5 : RdAt w5 R B r := by
              refine hRr.kept (fun j hj => hkeep j (by omega) (fun e => ?_))
              rcases hj with hj | hj
              · have := (hol j e.symm).1
                omega
              · subst hj
                exact hneR e.symm
            have hx5 : BelowX R N w w5 := (hxr.trans (BelowX.of_below ((Below.refl _ _).alloc (by omega) _))).trans (BelowX.of_grown hg5 (by omega) (fun k hk => .inr (hol k hk).1))
            have hs5 : M < w5.heap.size := (Array.getElem?_eq_some_iff.1 hM5).1
            obtain ⟨d0, d1, d2, z0, z1, z2⟩ := mod_cells hM5
            clear e0 e1 e2 f0 f1 f2
            go_wp2_with fail
            have hM6 := setCell_three (u := .slice (some ⟨g5, 0, none⟩) (vs.length + 1) cap5) hM5
            have hb6 : Below M w5 (w5.setCell ⟨M, 2, none⟩ (.slice (some ⟨g5, 0, none⟩) (vs.length + 1) cap5)) := (Below.refl _ _).setCell (p := ⟨M, 2, none⟩) (Nat.le_refl _) _
            have hs6 : w5.heap.size = (w5.setCell ⟨M, 2, none⟩ (.slice (some ⟨g5, 0, none⟩) (vs.length + 1) cap5)).heap.size := by simp
            have hne5 : (Value.slice (some ⟨g5, 0, none⟩) (vs.length + 1) cap5).ownBlock ≠ some M := own_ne ho5 hM5 (by decide)
            have ho6 := ho5.kept (grown_set w5 M 2 (.slice (some ⟨g5, 0, none⟩) (vs.length + 1) cap5)) (.inr hne5)
            generalize w5.setCell ⟨M, 2, none⟩ (.slice (some ⟨g5, 0, none⟩) (vs.length + 1) cap5) = w6 at hM6 hb6 hs6 ho6 ⊢
            clear d0 d1 d2 z0 z1 z2
            have hR6 : RdAt w6 R B r := hR5.kept (fun j hj => hb6.block j (by omega))
            have hN6 := (hb6.block N (by omega)).trans hN5
            have hx6 := hx5.trans (BelowX.of_below (hb6.mono (by omega)))
            refine Calls.mono (next_any R B typ r w6 hR6 (by omega) HV4.out (by omega)) ?_
            rintro e w7 ⟨rfl, hR7, hg7⟩
            have hM7 := (hg7.block M (by omega) (fun e => by injection e with e; omega)).trans hM6
            have hN7 := (hg7.block N (by omega) (fun e => by injection e with e; omega)).trans hN6
            have hx7 : BelowX R N w w7 := hx6.trans (BelowX.of_grown hg7 (by omega) (fun k e => .inl (by cases e; rfl)))
            have hs7 : M < w7.heap.size := by have := hg7.size; omega
            have ho7 := ho6.kept hg7 (.inr (by intro hv; have := (ho6.lt R hv).1; omega))
            have hl7 := lenP_at hR7
            have HL7 := Lib.hid hl7
            clear hl7
            go_wp2_with fail
            go_roundw
            case rel =>
              refine ⟨⟨vs ++ [q.2], r, .slice (some ⟨g5, 0, none⟩) (vs.length + 1) cap5, rfl, rfl, ?_, HV2.out, ?_, HV4.out, hR7, hM7, hN7, ?_, hx7⟩, hs7⟩
              · rw [HV1.out]; simp
              · simp; omega
              · rw [sV_append, List.length_append]; exact ho7
            case measure =>
              have h1 := HL7.out
              have h2 := HLP.out
              cases hbr : nxB typ r with
              | true =>
                have : (nxL typ r).length + 1 = r.length := by
                  cases r with
                  | nil => cases hbr
                  | cons y r' =>
                    have : y.1 = typ := by simpa [nxB] using hbr
                    simp [nxL, this]
                simp [h1, h2, boolN]
                omega
              | false =>
                have h3 := (valsR_stop typ r hbr).2.2
                simp [h1, h2, h3, boolN]
          | false =>
            obtain ⟨hc1, hc2, hc3⟩ := valsR_stop typ l0 hb
            rw [hc3] at hRr
            rw [hc1, List.append_nil] at hv1
            rw [hc2] at hv2
            have HV1 := Lib.hid hv1
            have HV2 := Lib.hid hv2
            have HV4 := Lib.hid hv4
            have hv3' : l0.length ≤ t.length := by omega
            clear hb hc1 hc2 hc3 hv1 hv2 hv3 hv4 hlp
            go_wp2_with fail
            refine Calls.mono (next_any R B [45] l0 wr hRr (by omega) HV4.out (by omega)) ?_
            rintro e w7 ⟨rfl, hR7, hg7⟩
            have hM7 := (hg7.block M (by omega) (fun e => by injection e with e; omega)).trans hMr
            have hN7 := (hg7.block N (by omega) (fun e => by injection e with e; omega)).trans hNr
            have hx7 : BelowX R N w w7 := hxr.trans (BelowX.of_grown hg7 (by omega) (fun k e => .inl (by cases e; rfl)))
            have ho7 := hor.kept hg7 (.inr (by intro hv; have := (hor.lt R hv).1; omega))
            obtain ⟨d0, d1, d2, _, _, _⟩ := mod_cells hM7
            obtain ⟨e0, e1, e2, f0, f1, f2⟩ := mod_cells hN7
            obtain ⟨au, cu, rfl⟩ : ∃ au cu, u = .slice au vs.length cu := by
              rcases hor.2 with ⟨rfl, h0⟩ | ⟨g, cap, cur, rfl, _⟩
              · exact ⟨none, 0, by rw [h0]⟩
              · exact ⟨_, _, rfl⟩
            obtain ⟨BB, hBB⟩ : ∃ b, nxB [45] l0 = b := ⟨_, rfl⟩
            rw [hBB]
            have HBB := Lib.hid hBB
            have hneN : (Value.slice au vs.length cu).ownBlock ≠ some N := own_ne hor hNr (by decide)
            clear hBB
            go_wp2_with fail
            refine bodyPost_ret (v := .tuple #[modV k typ (.slice au vs.length cu), .bool BB]) (by simp [results, Tryz.results146, go_sem, e0, e1, e2, modV]) rfl ?_
            rw [← HPR.out]
            have hb8 : Below N w7 (((w7.setCell ⟨N, 0, none⟩ (.int .i64 (k : Int))).setCell ⟨N, 1, none⟩ (.string ⟨typ.toArray⟩)).setCell ⟨N, 2, none⟩ (.slice au vs.length cu)) :=
              (((Below.refl N w7).setCell (p := ⟨N, 0, none⟩) (Nat.le_refl _) _).setCell (p := ⟨N, 1, none⟩) (Nat.le_refl _) _).setCell (p := ⟨N, 2, none⟩) (Nat.le_refl _) _
            have ho8 := ((ho7.kept (grown_set w7 N 0 (.int .i64 (k : Int))) (.inr hneN)).kept (grown_set _ N 1 (.string ⟨typ.toArray⟩)) (.inr hneN)).kept (grown_set _ N 2 (.slice au vs.length cu)) (.inr hneN)
            refine ⟨by rw [HNN.out]; exact hx7.trans (BelowX.of_below hb8), ?_⟩
            have hm := HMR.out
            rw [HV2.out, HV1.out, HBB.out] at hm
            rw [hm]
            cases BB with
            | true =>
              refine ⟨_, rfl, hR7.kept (fun j hj => ?_), by rw [HNN.out]; exact StrsN.own ho8⟩
              refine hb8.block j ?_
              omega
            | false => exact ⟨_, _, _, _, _, rfl⟩
    · obtain rfl : k = 3 := by omega
      have g1 : decide ((3 : Int) < 3) = false := by decide
      have HNO := Lib.hid hno
      obtain ⟨e0, e1, e2, f0, f1, f2⟩ := mod_cells hWN
      clear hno
      go_wp2_with fail
      refine bodyPost_ret (v := .tuple #[modV 0 [] (.slice none 0 0), .bool false]) (by simp [results, Tryz.results146, go_sem, e0, e1, e2, modV]) rfl ?_
      rw [← HPR.out]
      have hnone : modR l = none := by
        cases l with
        | nil => rfl
        | cons p t =>
          have h0 : nxB (opW 0) (p :: t) = false := HNO.out 0 (by omega)
          have h1 : nxB (opW 1) (p :: t) = false := HNO.out 1 (by omega)
          have h2 : nxB (opW 2) (p :: t) = false := HNO.out 2 (by omega)
          simp only [nxB, beq_eq_false_iff_ne] at h0 h1 h2
          have : opI p.1 = none := by
            unfold opI
            rw [if_neg h0, if_neg h1, if_neg h2]
          simp [modR, this]
      unfold ModPost
      rw [hnone]
      exact ⟨by rw [HNN.out]; exact BelowX.of_below (((hW.setCell (p := ⟨N, 0, none⟩) (Nat.le_refl _) _).setCell (p := ⟨N, 1, none⟩) (Nat.le_refl _) _).setCell (p := ⟨N, 2, none⟩) (Nat.le_refl _) _), 0, [], none, 0, 0, rfl⟩
theorem Tryz.infoAttr : (Tryz.prog.info? 179).map (fun i => (i.zero, i.size, i.bytes)) = some (some (.agg #[.string ⟨#[]⟩, .slice none 0 0]), 2, 40) := by kernel_rfl
def flatA : List At → List Value → List Value
  | m :: ms, u :: us => .string ⟨m.1.toArray⟩ :: u :: flatA ms us
  | _, _ => []
theorem flatA_length : ∀ (ms : List At) (us : List Value), us.length = ms.length → (flatA ms us).length = ms.length * 2
  | [], _, _ => by simp [flatA]
  | m :: ms, [], h => by simp at h
  | m :: ms, u :: us, h => by
    have := flatA_length ms us (by simpa using h)
    simp only [flatA, List.length_cons, this]
    omega
theorem flatA_snoc : ∀ (ms : List At) (us : List Value) (m : At) (u : Value), us.length = ms.length → flatA (ms ++ [m]) (us ++ [u]) = flatA ms us ++ [.string ⟨m.1.toArray⟩, u]
  | [], [], m, u, _ => rfl
  | [], _ :: _, _, _, h => by simp at h
  | _ :: _, [], _, _, h => by simp at h
  | a :: ms, b :: us, m, u, h => by
    have := flatA_snoc ms us m u (by simpa using h)
    simp only [List.cons_append, flatA, this]
theorem flatA_get : ∀ (ms : List At) (us : List Value) (j : Nat) (m : At) (u : Value), ms[j]? = some m → us[j]? = some u → (flatA ms us)[j * 2]? = some (.string ⟨m.1.toArray⟩) ∧ (flatA ms us)[j * 2 + 1]? = some u
  | [], _, _, _, _, h, _ => by simp at h
  | _ :: _, [], _, _, _, _, h => by simp at h
  | a :: ms, b :: us, 0, m, u, h, k => by
    simp only [List.getElem?_cons_zero, Option.some.injEq] at h k
    subst h k
    exact ⟨rfl, rfl⟩
  | a :: ms, b :: us, j + 1, m, u, h, k => by
    have := flatA_get ms us j m u (by simpa using h) (by simpa using k)
    rw [show (j + 1) * 2 = j * 2 + 2 by omega]
    exact this
theorem own_set {w : World} {base e size n g cap i : Nat} {xs : List Value} {x : Value} (h : w.ownsRow base e size (.slice (some ⟨g, 0, none⟩) n cap) n xs) (_hi : i < xs.length) :
    (w.setCell ⟨g, i, none⟩ x).ownsRow base e size (.slice (some ⟨g, 0, none⟩) n cap) n (xs.set i x) := by
  refine ⟨by rw [List.length_set]; exact h.1, ?_⟩
  rcases h.2 with ⟨h1, _⟩ | ⟨g', cap', cur, hv, hb, hg, hc, hm, hs, ht⟩
  · cases h1
  · cases hv
    refine .inr ⟨g, cap, cur.setIfInBounds i x, rfl, hb, ?_, hc, hm, by simpa using hs, ?_⟩
    · simp [World.setCell, Array.getElem?_modify, hg]
    · rw [Array.toList_setIfInBounds, List.take_set, ht]
theorem own_cell {w : World} {base e size n g cap : Nat} {xs : List Value} (h : w.ownsRow base e size (.slice (some ⟨g, 0, none⟩) n cap) n xs) {i : Nat} {x : Value} (hi : xs[i]? = some x) : w.cell? ⟨g, i, none⟩ = some x ∧ w.frozen? ⟨g, i, none⟩ = false := by
  have hadd : (⟨g, 0, none⟩ : Addr).add i = ⟨g, i, none⟩ := by unfold Addr.add; split <;> simp_all
  have k1 := h.cells (g := g) rfl _ _ hi
  rw [hadd] at k1
  refine ⟨k1, ?_⟩
  rcases h.2 with ⟨h1, _⟩ | ⟨g', cap', cur, hv, hb, hg, _⟩
  · cases h1
  · cases hv
    exact Lib.frozen_of_heap hg i
def Dist (us : List Value) : Prop := ∀ (i j : Nat) (x y : Value), us[i]? = some x → us[j]? = some y → i ≠ j → ∀ g, x.ownBlock = some g → y.ownBlock ≠ some g
structure AttS (R N : Nat) (w : World) (a b c : List UInt8) (acc : List At) (us : List Value) (vA : Value) (wr : World) : Prop where
  hc : wr.heap[N + 1]? = some (.cells #[.string ⟨a.toArray⟩, .string ⟨b.toArray⟩, .string ⟨c.toArray⟩, .int .i64 0, vA, .slice none 0 0, .string ⟨#[]⟩, .string ⟨#[]⟩, .bool false, .bool false] 47 (0, 0))
  hn : wr.heap[N]? = some (.cells #[.string ⟨#[]⟩, .string ⟨#[]⟩, .string ⟨#[]⟩, .int .i64 0, .slice none 0 0, .slice none 0 0, .string ⟨#[]⟩, .string ⟨#[]⟩, .bool false, .bool false] 47 (0, 0))
  hx : BelowX R N w wr
  ho : wr.ownsRow (N + 2) 179 2 vA acc.length (flatA acc us)
  hl : us.length = acc.length
  hs : ∀ (j : Nat) (x : At) (u : Value), acc[j]? = some x → us[j]? = some u → wr.ownsRow (N + 2) 9 1 u x.2.length (sV x.2)
  hd : Dist us
theorem AttS.kept {R N : Nat} {w : World} {a b c : List UInt8} {acc : List At} {us : List Value} {vA : Value} {wr wq : World} (h : AttS R N w a b c acc us vA wr) (hR : R < N) (hg : wr.grownBy wq (some R)) : AttS R N w a b c acc us vA wq :=
  have hs : N + 1 < wr.heap.size := (Array.getElem?_eq_some_iff.1 h.hc).1
  ⟨(hg.block _ hs (fun e => by injection e with e; omega)).trans h.hc, (hg.block _ (by omega) (fun e => by injection e with e; omega)).trans h.hn,
    h.hx.trans (BelowX.of_grown hg (by omega) (fun k e => .inl (by cases e; rfl))),
    h.ho.kept hg (.inr (fun e => by have := (h.ho.lt R e).1; omega)), h.hl,
    fun j x u h1 h2 => (h.hs j x u h1 h2).kept hg (.inr (fun e => by have := ((h.hs j x u h1 h2).lt R e).1; omega)), h.hd⟩
theorem attrs_own {N : Nat} {w : World} {v : Value} {acc : List At} {us : List Value} (h : w.ownsRow N 179 2 v acc.length (flatA acc us)) (hl : us.length = acc.length)
    (hs : ∀ (j : Nat) (x : At) (u : Value), acc[j]? = some x → us[j]? = some u → w.ownsRow N 9 1 u x.2.length (sV x.2)) : AttrsAt w v acc := by
  rcases id h.2 with ⟨rfl, h0⟩ | ⟨g, cap, cur, rfl, hb, hg, hc, _, _, ht⟩
  · have : acc = [] := List.length_eq_zero_iff.1 h0
    subst this
    exact ⟨none, 0, rfl, by simp, fun h => absurd rfl h⟩
  · refine ⟨some ⟨g, 0, none⟩, cap, rfl, hc, fun _ => ⟨g, 0, rfl, fun j x hj => ?_⟩⟩
    obtain ⟨u, hu⟩ : ∃ u, us[j]? = some u := ⟨us[j]'(by rw [hl]; exact (List.getElem?_eq_some_iff.1 hj).1), List.getElem?_eq_getElem _⟩
    obtain ⟨g1, g2⟩ := flatA_get acc us j x u hj hu
    obtain ⟨k1, _⟩ := own_cell h g1
    obtain ⟨k2, _⟩ := own_cell h g2
    refine ⟨by rw [Nat.zero_add]; exact k1, u, by rw [Nat.zero_add]; exact k2, ?_⟩
    have hu2 := hs j x u hj hu
    rcases id hu2.2 with ⟨rfl, h0⟩ | ⟨gu, cu, curu, rfl, _, hgu, hcu, _, _, htu⟩
    · have : x.2 = [] := List.length_eq_zero_iff.1 h0
      rw [this]
      exact ⟨none, 0, rfl, by simp, fun h => absurd rfl h⟩
    · refine ⟨some ⟨gu, 0, none⟩, cu, rfl, hcu, fun _ => ⟨gu, 0, rfl, fun i y hi => ?_⟩⟩
      rw [Nat.zero_add]
      exact (own_cell hu2 (by simp [sV, hi])).1
theorem flatA_set : ∀ (ms : List At) (us : List Value) (m : At) (u x : Value), us.length = ms.length → (flatA (ms ++ [m]) (us ++ [u])).set (ms.length * 2 + 1) x = flatA (ms ++ [m]) (us ++ [x]) := by
  intro ms us m u x h
  rw [flatA_snoc ms us m u h, flatA_snoc ms us m x h, List.set_append_right _ _ (by rw [flatA_length ms us h]; omega), flatA_length ms us h]
  simp
theorem flatA_last : ∀ (init : List At) (typ : List UInt8) (vs vs' : List (List UInt8)) (us : List Value), flatA (init ++ [(typ, vs)]) us = flatA (init ++ [(typ, vs')]) us
  | [], _, _, _, [] => rfl
  | [], _, _, _, _ :: _ => rfl
  | _ :: _, _, _, _, [] => rfl
  | x :: xs, typ, vs, vs', u :: us => by
    have := flatA_last xs typ vs vs' us
    simp only [List.cons_append, flatA, this]
theorem own_or {u v : Value} (h : ∀ g, u.ownBlock = some g → v.ownBlock ≠ some g) : u.ownBlock = none ∨ u.ownBlock ≠ v.ownBlock := by
  cases hu : u.ownBlock with
  | none => exact .inl rfl
  | some g => exact .inr (fun e => h g hu e.symm)
theorem set_kept {w : World} {b i : Nat} {x : Value} {cs : Array Value} {t : TypeId} {base e size n : Nat} {v : Value} {xs : List Value} (h : w.ownsRow base e size v n xs) (hb : w.heap[b]? = some (.cells cs t (0, 0))) (ht : e ≠ t) : (w.setCell ⟨b, i, none⟩ x).ownsRow base e size v n xs :=
  h.kept (grown_set w b i x) (.inr (own_ne h hb ht))
theorem setCell_four {w : World} {C : Nat} {x0 x1 x2 x3 x4 x5 x6 x7 x8 x9 u : Value} {t : TypeId} (h : w.heap[C]? = some (.cells #[x0, x1, x2, x3, x4, x5, x6, x7, x8, x9] t (0, 0))) : (w.setCell ⟨C, 4, none⟩ u).heap[C]? = some (.cells #[x0, x1, x2, x3, u, x5, x6, x7, x8, x9] t (0, 0)) := by
  simp [World.setCell, Array.getElem?_modify, h]
theorem att_new {R B N : Nat} {w : World} {a b c typ : List UInt8} {acc : List At} {us : List Value} {vA : Value} {w2 w3 w4 : World} {t : List Pr} {o : Obj} {g cap : Nat} (h : AttS R N w a b c acc us vA w2) (hRd : RdAt w2 R B t) (hB : B ≤ N) (hR : R < N) (hb : Below w2.heap.size w2 w3)
    (hg : (w3.alloc o).grownBy w4 vA.ownBlock) (ho : w4.ownsRow (N + 2) 179 2 (.slice (some ⟨g, 0, none⟩) (acc.length + 1) cap) (acc.length + 1) (flatA acc us ++ [.string ⟨typ.toArray⟩, .slice none 0 0])) :
    AttS R N w a b c (acc ++ [(typ, [])]) (us ++ [.slice none 0 0]) (.slice (some ⟨g, 0, none⟩) (acc.length + 1) cap) (w4.setCell ⟨N + 1, 4, none⟩ (.slice (some ⟨g, 0, none⟩) (acc.length + 1) cap)) ∧
    RdAt (w4.setCell ⟨N + 1, 4, none⟩ (.slice (some ⟨g, 0, none⟩) (acc.length + 1) cap)) R B t := by
  have hsz : N + 1 < w2.heap.size := (Array.getElem?_eq_some_iff.1 h.hc).1
  have hs3 := hb.size
  have hkeep : ∀ j, j < w2.heap.size → some j ≠ vA.ownBlock → w4.heap[j]? = w2.heap[j]? := fun j hj hne => ((hg.block j (by simp; omega) hne).trans (Lib.alloc_old _ _ _ (by omega))).trans (hb.block j hj)
  have hne1 : some (N + 1) ≠ vA.ownBlock := fun e => by have := (h.ho.lt (N + 1) e.symm).1; omega
  have hne0 : some N ≠ vA.ownBlock := fun e => by have := (h.ho.lt N e.symm).1; omega
  have hc4 := (hkeep (N + 1) hsz hne1).trans h.hc
  have hn4 := (hkeep N (by omega) hne0).trans h.hn
  have hx4 : BelowX R N w w4 := ((h.hx.trans (BelowX.of_below (hb.mono (by omega)))).trans (BelowX.of_below ((Below.refl _ _).alloc (by omega) _))).trans (BelowX.of_grown hg (by simp; omega) (fun k hk => .inr (by have := (h.ho.lt k hk).1; omega)))
  have hba : Below (N + 1) w4 (w4.setCell ⟨N + 1, 4, none⟩ (.slice (some ⟨g, 0, none⟩) (acc.length + 1) cap)) := (Below.refl _ _).setCell (p := ⟨N + 1, 4, none⟩) (Nat.le_refl _) _
  have hrow : ∀ (base e size n : Nat) (v : Value) (xs : List Value), w2.ownsRow base e size v n xs → e = 9 → w4.ownsRow base e size v n xs := by
    intro base e size n v xs hv he
    have h3 := own_below hv hb
    refine (h3.alloc o).kept hg (own_or (fun k hk hk2 => ?_))
    rcases id h.ho.2 with ⟨hvn, _⟩ | ⟨gA, capA, cur, hvA, _, hgA, _⟩
    · rw [hvn] at hk2; cases hk2
    · rw [hvA] at hk2
      simp only [Value.ownBlock, Option.some.injEq] at hk2
      subst hk2
      exact own_ne hv hgA (by rw [he]; decide) hk
  refine ⟨⟨setCell_four hc4, (hba.block N (by omega)).trans hn4, hx4.trans (BelowX.of_below (hba.mono (by omega))), ?_, by simp [h.hl], ?_, ?_⟩, ?_⟩
  · rw [flatA_snoc _ _ _ _ h.hl, List.length_append]
    exact ho.kept (grown_set _ _ _ _) (.inr (fun e => by have := (ho.lt (N + 1) e).1; omega))
  · intro j x u h1 h2
    by_cases hj : j < acc.length
    · rw [List.getElem?_append_left hj] at h1
      rw [List.getElem?_append_left (by rw [h.hl]; exact hj)] at h2
      have h4 := hrow _ _ _ _ _ _ (h.hs j x u h1 h2) rfl
      exact set_kept h4 hc4 (by decide)
    · have hj2 : j = acc.length := by
        have := (List.getElem?_eq_some_iff.1 h1).1
        simp at this
        omega
      subst hj2
      rw [List.getElem?_append_right (Nat.le_refl _)] at h1
      rw [List.getElem?_append_right (by rw [h.hl]; exact Nat.le_refl _)] at h2
      simp at h1
      simp [h.hl] at h2
      subst h1 h2
      exact World.ownsRow_nil _ _ _ _
  · intro i j x y h1 h2 hij k hk
    by_cases hi : i < acc.length
    · rw [List.getElem?_append_left (by rw [h.hl]; exact hi)] at h1
      by_cases hj : j < acc.length
      · rw [List.getElem?_append_left (by rw [h.hl]; exact hj)] at h2
        exact h.hd i j x y h1 h2 hij k hk
      · rw [List.getElem?_append_right (by rw [h.hl]; omega)] at h2
        have : y = .slice none 0 0 := by
          have hm := List.mem_of_getElem? h2
          simpa using hm
        subst this
        simp [Value.ownBlock]
    · rw [List.getElem?_append_right (by rw [h.hl]; omega)] at h1
      have : x = .slice none 0 0 := by
        have hm := List.mem_of_getElem? h1
        simpa using hm
      subst this
      cases hk
  · refine hRd.kept (fun j hj => ?_)
    rw [hba.block j (by omega)]
    refine hkeep j (by omega) (fun e => ?_)
    have := (h.ho.lt j e.symm).1
    omega
theorem att_put {R B N : Nat} {w : World} {a b c typ v : List UInt8} {init : List At} {usI : List Value} {vs : List (List UInt8)} {u : Value} {w2 w3 : World} {t : List Pr} {o : Obj} {gA capA g5 cap5 : Nat} (hul : usI.length = init.length) (h : AttS R N w a b c (init ++ [(typ, vs)]) (usI ++ [u]) (.slice (some ⟨gA, 0, none⟩) (init.length + 1) capA) w2)
    (hRd : RdAt w2 R B t) (hB : B ≤ N) (hR : R < N) (hg : (w2.alloc o).grownBy w3 u.ownBlock) (ho : w3.ownsRow (N + 2) 9 1 (.slice (some ⟨g5, 0, none⟩) (vs.length + 1) cap5) (vs.length + 1) (sV vs ++ [.string ⟨v.toArray⟩])) (hat : u.ownBlock = some g5 ∨ g5 = w2.heap.size + 1) :
    AttS R N w a b c (init ++ [(typ, vs ++ [v])]) (usI ++ [.slice (some ⟨g5, 0, none⟩) (vs.length + 1) cap5]) (.slice (some ⟨gA, 0, none⟩) (init.length + 1) capA) (w3.setCell ⟨gA, init.length * 2 + 1, none⟩ (.slice (some ⟨g5, 0, none⟩) (vs.length + 1) cap5)) ∧
    RdAt (w3.setCell ⟨gA, init.length * 2 + 1, none⟩ (.slice (some ⟨g5, 0, none⟩) (vs.length + 1) cap5)) R B t := by
  have hsz : N + 1 < w2.heap.size := (Array.getElem?_eq_some_iff.1 h.hc).1
  have hho := h.ho
  rw [List.length_append] at hho
  have hlast : w2.ownsRow (N + 2) 9 1 u vs.length (sV vs) := h.hs init.length (typ, vs) u (by simp) (by rw [← hul]; simp)
  have hgA := (hho.lt gA rfl).1
  have hgAB : ∃ cur, w2.heap[gA]? = some (.cells cur 179 (0, 0)) := by
    rcases id hho.2 with ⟨h1, _⟩ | ⟨g', cap', cur, hv, _, hg', _⟩
    · cases h1
    · cases hv
      exact ⟨cur, hg'⟩
  obtain ⟨curA, hcurA⟩ := hgAB
  have hkeep : ∀ j, j < w2.heap.size → some j ≠ u.ownBlock → w3.heap[j]? = w2.heap[j]? := fun j hj hne => (hg.block j (by simp; omega) hne).trans (Lib.alloc_old _ _ _ (by omega))
  have hneU : ∀ j, j < N + 2 → some j ≠ u.ownBlock := fun j hj e => by have := (hlast.lt j e.symm).1; omega
  have hneA : some gA ≠ u.ownBlock := fun e => own_ne hlast hcurA (by decide) e.symm
  have hlA : gA < w2.heap.size := (Array.getElem?_eq_some_iff.1 hcurA).1
  have hA3 := (hkeep gA hlA hneA).trans hcurA
  have hset : ∀ j, j ≠ gA → (w3.setCell ⟨gA, init.length * 2 + 1, none⟩ (.slice (some ⟨g5, 0, none⟩) (vs.length + 1) cap5)).heap[j]? = w3.heap[j]? := fun j hj => Below.heap_setCell w3 ⟨gA, init.length * 2 + 1, none⟩ _ j hj
  have ho3 : w3.ownsRow (N + 2) 179 2 (.slice (some ⟨gA, 0, none⟩) (init.length + 1) capA) (init.length + 1) (flatA (init ++ [(typ, vs)]) (usI ++ [u])) := (hho.alloc o).kept hg (.inr hneA)
  have hx3 : BelowX R N w w3 := (h.hx.trans (BelowX.of_below ((Below.refl _ _).alloc (by omega) _))).trans (BelowX.of_grown hg (by simp; omega) (fun k hk => .inr (by have := (hlast.lt k hk).1; omega)))
  have hbs : Below N w3 (w3.setCell ⟨gA, init.length * 2 + 1, none⟩ (.slice (some ⟨g5, 0, none⟩) (vs.length + 1) cap5)) := (Below.refl _ _).setCell (p := ⟨gA, init.length * 2 + 1, none⟩) (by show N ≤ gA; omega) _
  refine ⟨⟨(hset _ (by omega)).trans ((hkeep _ hsz (hneU _ (by omega))).trans h.hc), (hset _ (by omega)).trans ((hkeep _ (by omega) (hneU _ (by omega))).trans h.hn), hx3.trans (BelowX.of_below hbs), ?_, by simp [hul], ?_, ?_⟩, ?_⟩
  · rw [List.length_append]
    have := own_set (i := init.length * 2 + 1) (x := .slice (some ⟨g5, 0, none⟩) (vs.length + 1) cap5) ho3 (by rw [flatA_length _ _ (by simp [hul])]; simp; omega)
    rw [flatA_set init usI (typ, vs) u _ hul] at this
    have e : ∀ us, flatA (init ++ [(typ, vs)]) us = flatA (init ++ [(typ, vs ++ [v])]) us := by
      exact flatA_last init typ vs (vs ++ [v])
    rw [← e]
    exact this
  · intro j x y h1 h2
    by_cases hj : j < init.length
    · rw [List.getElem?_append_left hj] at h1
      rw [List.getElem?_append_left (by rw [hul]; exact hj)] at h2
      have hold := h.hs j x y (by rw [List.getElem?_append_left hj]; exact h1) (by rw [List.getElem?_append_left (by rw [hul]; exact hj)]; exact h2)
      have hne : y.ownBlock = none ∨ y.ownBlock ≠ u.ownBlock := own_or (h.hd j init.length y u (by rw [List.getElem?_append_left (by rw [hul]; exact hj)]; exact h2) (by rw [← hul]; simp) (by omega))
      exact set_kept ((hold.alloc o).kept hg hne) hA3 (by decide)
    · have hj2 : j = init.length := by
        have := (List.getElem?_eq_some_iff.1 h1).1
        simp at this
        omega
      subst hj2
      rw [List.getElem?_append_right (Nat.le_refl _)] at h1
      rw [List.getElem?_append_right (by rw [hul]; exact Nat.le_refl _)] at h2
      simp at h1
      simp [hul] at h2
      subst h1 h2
      rw [List.length_append, sV_append]
      exact set_kept ho hA3 (by decide)
  · have hold : ∀ (i : Nat) (x : Value), usI[i]? = some x → ∀ k, x.ownBlock = some k → k ≠ g5 := by
      intro i x hi k hk e
      subst e
      have hil : i < init.length := by have := (List.getElem?_eq_some_iff.1 hi).1; omega
      have hi' : (usI ++ [u])[i]? = some x := by rw [List.getElem?_append_left (by omega)]; exact hi
      have hu' : (usI ++ [u])[init.length]? = some u := by rw [← hul]; simp
      rcases hat with hat | hat
      · exact h.hd i init.length x u hi' hu' (by omega) k hk hat
      · obtain ⟨y, hy⟩ : ∃ y, (init ++ [(typ, vs)])[i]? = some y := ⟨_, List.getElem?_eq_getElem (by simp; omega)⟩
        have := ((h.hs i y x hy hi').lt k hk).2
        omega
    intro i j x y h1 h2 hij k hk
    by_cases hi : i < usI.length
    · rw [List.getElem?_append_left hi] at h1
      by_cases hj : j < usI.length
      · rw [List.getElem?_append_left hj] at h2
        exact h.hd i j x y (by rw [List.getElem?_append_left hi]; exact h1) (by rw [List.getElem?_append_left hj]; exact h2) hij k hk
      · rw [List.getElem?_append_right (by omega)] at h2
        have : y = .slice (some ⟨g5, 0, none⟩) (vs.length + 1) cap5 := by simpa using List.mem_of_getElem? h2
        subst this
        simp only [Value.ownBlock, ne_eq, Option.some.injEq]
        exact fun e => hold i x h1 k hk e.symm
    · rw [List.getElem?_append_right (by omega)] at h1
      have : x = .slice (some ⟨g5, 0, none⟩) (vs.length + 1) cap5 := by simpa using List.mem_of_getElem? h1
      subst this
      simp only [Value.ownBlock, Option.some.injEq] at hk
      subst hk
      have hj : j < usI.length := by
        have h3 := (List.getElem?_eq_some_iff.1 h2).1
        simp at h3
        have h4 : i = usI.length := by
          have := List.mem_of_getElem? h1
          have h5 := (List.getElem?_eq_some_iff.1 h1).1
          simp at h5
          omega
        omega
      rw [List.getElem?_append_left hj] at h2
      exact fun e => hold j y h2 _ e rfl
  · refine hRd.kept (fun j hj => ?_)
    rw [hset j (by omega)]
    exact hkeep j (by omega) (hneU j (by omega))
end Go.Proofs.YtegigcneimjimaaGreatDoor
