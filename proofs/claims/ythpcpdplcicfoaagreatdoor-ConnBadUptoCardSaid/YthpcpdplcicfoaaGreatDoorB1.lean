/- CoB, CoR, MgAt, LawCb, OpenMsgs. -/
import Derived.Test.YthpcpdplcicfoaaGreatDoorV24
import Derived.Lib.Builder
import Derived.Lib.UnsafeStr
import Derived.Lib.AppendStr
import Derived.Deep.Cut
import Derived.MapKept
import Derived.Defers
import Derived.Recover
import Derived.Laws.Pointers
import Derived.OwnWalk
import Derived.Deep.AppendLies
import Derived.Test.YthpcpdplcicfoaaGreatDoorShelf
import Derived.WalkKit
import Derived.WalkLawsBesides
import Derived.WalkSpells
import Derived.Deep.QuietTactic
import Derived.BigQuiet
import Derived.Lib.OthersKept
import Derived.Lib.Hide
import Derived.Lib.TrimUEq
import Derived.Lib.ValidLaws
import Derived.Laws.Runes
import Derived.Laws.Rows
import Derived.Laws.Tables
import Derived.RegionTactic
import Derived.OrdersHeld
import Derived.ChangeKeysEq
import Derived.Deep.CutRange
import Derived.Deep.CutBlock
import Derived.Lib.IndexLaws
import Derived.Lib.Split
import Derived.Shelf.Strings.SlTrimAscii
import Derived.Lib.SplitLaws
import Derived.Deep.MidRow
import Derived.Deep.SlicePairs
import Derived.Deep.Strs
import Derived.Lib.SmallJoins
import Derived.Test.YthpcpdplcicfoaaGreatDoorCards
import Derived.Test.YthpcpdplcicfoaaGreatDoorTie
import Derived.ProofKit
import Derived.OpenShut
import Derived.Deep.DeepHandedRow
import Derived.Deep.DeepWitnessRowRef
import Derived.Lib.LaidTab
import Derived.Lib.LaidIn
import Derived.Lib.LaidU8T
import Derived.SizedLaws
namespace Go.Proofs.YthpcpdplcicfoaaGreatDoor
open Go.RowKit Go.Lib
open Go.Shelf Go.ChangeShapes Go.WideShapes Go.ChangeAt Go.RowKit Go.Lib
theorem Tryz.cCells : Tryz.prog.cellsOf 5 = 1 := by kernel_rfl
theorem freeze_other (w : World) (g n j : Nat) (h : j ≠ g) : (w.freeze ⟨g, 0, none⟩ n).heap[j]? = w.heap[j]? := by
  unfold World.freeze
  split
  · rfl
  · show (w.heap.modify g _)[j]? = _
    rw [Array.getElem?_modify, if_neg (Ne.symm h)]
theorem freeze_same (w : World) (g n : Nat) : (w.freeze ⟨g, 0, none⟩ n).os = w.os ∧ (w.freeze ⟨g, 0, none⟩ n).tape = w.tape ∧ (w.freeze ⟨g, 0, none⟩ n).output = w.output ∧ (w.freeze ⟨g, 0, none⟩ n).heap.size = w.heap.size := by
  unfold World.freeze
  split
  · exact ⟨rfl, rfl, rfl, rfl⟩
  · exact ⟨rfl, rfl, rfl, by simp⟩
/-- What String leaves: only the buffer's block may have turned. -/
def StrTo (w : World) (v : Value) (w' : World) : Prop := w'.os = w.os ∧ w'.tape = w.tape ∧ w'.output = w.output ∧ w.heap.size ≤ w'.heap.size ∧ ∀ j, j < w.heap.size → v.ownBlock ≠ some j → w'.heap[j]? = w.heap[j]?
set_option maxHeartbeats 1000000 in
set_option maxRecDepth 100000 in
theorem c4_String (C : Nat) (v : Value) (l : List UInt8) (w : World) (c5 : w.cell? ⟨C, 5, none⟩ = some v) (hown : w.ownsRow 0 5 1 v l.length (bV l)) :
    Calls Tryz.prog 41 #[.pointer (some ⟨C, 4, none⟩)] w fun e w' => e = .returned (.string ⟨l.toArray⟩) ∧ StrTo w v w' := by
  by_cases h0 : l = []
  · subst h0
    have c5' : w.drew.cell? ⟨C, 5, none⟩ = some v := c5
    have hUS : ∀ (p : Option Addr) (W : World), (Builtin.unsafeString_ #[117, 3] 9 #[.pointer p, .int .i64 0]).run Tryz.prog W = .ok (.string .empty) W := fun p W => Lib.run_unsafeString_none W _ _ _ p
    rcases hown.2 with ⟨rfl, _⟩ | ⟨g, cap, cur, rfl, hbg, hg, hnc, hcm, hcs, htake⟩
    · have hSD : (Builtin.unsafeSliceData_ #[77] 117 #[.slice none 0 0]).run Tryz.prog w.drew = .ok (.pointer none) w.drew := Lib.run_unsafeSliceData_nil _ _ _ _ _
      clear hown c5
      go_enter Tryz.func41, Tryz.ntmps41
      go_wp2
      go_region
      all_goals (go_wp2; go_ret; exact ⟨rfl, rfl, rfl, rfl, Nat.le_refl _, fun _ _ _ => rfl⟩)
    · by_cases hc : cap = 0
      · subst hc
        have hSD : (Builtin.unsafeSliceData_ #[77] 117 #[.slice (some ⟨g, 0, none⟩) 0 0]).run Tryz.prog w.drew = .ok (.pointer (some ⟨w.drew.heap.size, 0, none⟩)) (w.drew.alloc (.view ⟨g, 0, none⟩ 5)) :=
          Lib.run_unsafeSliceData_zero w.drew _ _ _ Tryz.underlying117 ⟨g, 0, none⟩ 0 (5, cur.size) (by have hg' : w.drew.heap[g]? = some (.cells cur 5 (0, 0)) := hg; simp [World.shape?, hg'])
        have b1 : Below w.heap.size w (w.drew.alloc (.view ⟨g, 0, none⟩ 5)) := ((Below.refl w.heap.size w).drew).alloc (Nat.le_refl _) _
        have c5a := (b1.cell (bj c5)).trans c5
        have c5b : (w.alloc (.view ⟨g, 0, none⟩ 5)).cell? ⟨C, 5, none⟩ = some (.slice (some ⟨g, 0, none⟩) 0 0) := c5a
        have c5d : (w.alloc (.view ⟨g, 0, none⟩ 5)).drew.cell? ⟨C, 5, none⟩ = some (.slice (some ⟨g, 0, none⟩) 0 0) := c5a
        have HB := Lib.hid b1
        clear hown c5 htake hcs hg b1
        go_enter Tryz.func41, Tryz.ntmps41
        go_wp2
        go_region
        all_goals (go_wp2; go_ret; exact ⟨rfl, HB.out.os, HB.out.tape, HB.out.output, HB.out.size, fun j hj _ => HB.out.block j hj⟩)
      · have hSD : (Builtin.unsafeSliceData_ #[77] 117 #[.slice (some ⟨g, 0, none⟩) 0 cap]).run Tryz.prog w.drew = .ok (.pointer (some ⟨g, 0, none⟩)) w.drew := Lib.run_unsafeSliceData_row _ _ _ _ _ _ hc
        clear hown c5 htake hcs hg
        go_enter Tryz.func41, Tryz.ntmps41
        go_wp2
        go_region
        all_goals (go_wp2; go_ret; exact ⟨rfl, rfl, rfl, rfl, Nat.le_refl _, fun _ _ _ => rfl⟩)
  · have hl0 : l.length ≠ 0 := by simpa using h0
    obtain ⟨g, cap, cur, rfl, hbg, hg, hnc, hcm, hcs, htake⟩ : ∃ g cap cur, v = .slice (some ⟨g, 0, none⟩) l.length cap ∧ 0 ≤ g ∧ w.heap[g]? = some (.cells cur 5 (0, 0)) ∧ l.length ≤ cap ∧ cap ≤ maxLen ∧ cur.size = cap * 1 ∧ cur.toList.take (l.length * 1) = bV l := by
      rcases hown.2 with ⟨_, hz⟩ | ⟨g, cap, cur, hv, r⟩
      · exact absurd hz hl0
      · exact ⟨g, cap, cur, hv, r⟩
    have c5' : w.drew.cell? ⟨C, 5, none⟩ = some (.slice (some ⟨g, 0, none⟩) l.length cap) := c5
    have hSD : (Builtin.unsafeSliceData_ #[77] 117 #[.slice (some ⟨g, 0, none⟩) l.length cap]).run Tryz.prog w.drew = .ok (.pointer (some ⟨g, 0, none⟩)) w.drew :=
      Lib.run_unsafeSliceData_row _ _ _ _ _ _ (by omega)
    have hUS : (Builtin.unsafeString_ #[117, 3] 9 #[.pointer (some ⟨g, 0, none⟩), .int .i64 l.length]).run Tryz.prog w.drew = .ok (.string ⟨l.toArray⟩) (w.drew.freeze ⟨g, 0, none⟩ l.length) := by
      refine Lib.run_unsafeString_row w.drew 117 3 9 5 Tryz.underlying117 Tryz.cCells g cur.size (by have hg' : w.drew.heap[g]? = some (.cells cur 5 (0, 0)) := hg; simp [World.shape?, hg']) l h0 (by omega) (by unfold maxLen at hcm; omega) ?_
      intro j x hx
      exact hown.cells (g := g) rfl j (.int .u8 x.toNat) (by simp [bV, hx])
    obtain ⟨f1, f2, f3, f4⟩ := freeze_same w.drew g l.length
    have HF := Lib.hid (show StrTo w (.slice (some ⟨g, 0, none⟩) l.length cap) (w.drew.freeze ⟨g, 0, none⟩ l.length) from ⟨f1, f2, f3, Nat.le_of_eq f4.symm, fun j _ hn => freeze_other w.drew g l.length j (fun e => hn (by rw [e]; rfl))⟩)
    clear htake hcs hg f1 f2 f3 f4 c5
    go_enter Tryz.func41, Tryz.ntmps41
    go_wp2
    go_region
    all_goals (go_wp2; go_ret; exact ⟨rfl, HF.out⟩)
theorem c4_Reset (C : Nat) (w : World) (v p : Value) (c4 : w.cell? ⟨C, 4, none⟩ = some p) (c5 : w.cell? ⟨C, 5, none⟩ = some v) (z4 : w.frozen? ⟨C, 4, none⟩ = false) (z5 : w.frozen? ⟨C, 5, none⟩ = false) :
    Calls Tryz.prog 42 #[.pointer (some ⟨C, 4, none⟩)] w fun e w' => e = .returned (.tuple #[]) ∧ w' = (w.setCell ⟨C, 4, none⟩ (.pointer none)).setCell ⟨C, 5, none⟩ (.slice none 0 0) := by
  go_enter Tryz.func42, Tryz.ntmps42
  go_wp2_with fail
  first
    | refine bodyPost_end (results_none rfl _ _ _) rfl ?_
    | refine bodyPost_ret (results_none rfl _ _ _) rfl ?_
  exact ⟨rfl, rfl⟩
set_option maxRecDepth 100000 in
theorem cTake_any (P X : Nat → Prop) (C : Nat) (s : Cs) (w : World) (h : dc P X C s w) :
    Calls Tryz.prog 17 #[.pointer (some ⟨C, 0, none⟩)] w fun e w' => e = .returned (.string ⟨s.out.toArray⟩) ∧ em P X C w { s with out := [] } w' := by
  obtain ⟨wv, iv, cv, bp, bv, Ms, h⟩ := h
  have ks := c4_String C bv s.out w ((Lib.cell_of_heap h.row 5).trans rfl) h.b.bw
  have H := Lib.hid h
  clear h
  go_enter Tryz.func17, Tryz.ntmps17
  go_wp2_with fail
  refine Calls.mono (show Calls _ _ _ _ _ from ks) ?_
  rintro e w1 ⟨rfl, s1, s2, s3, s4, s5⟩
  have h := H.out
  have hCl := (Array.getElem?_eq_some_iff.1 h.row).1
  have r1 := (s5 C hCl (fun q => h.b.neC h.row (.inr (.inl q)) rfl)).trans h.row
  have kr := c4_Reset C w1 bv bp ((Lib.cell_of_heap r1 4).trans rfl) ((Lib.cell_of_heap r1 5).trans rfl) (Lib.frozen_of_heap r1 4) (Lib.frozen_of_heap r1 5)
  have FIN : em P X C w { s with out := [] } ((w1.setCell ⟨C, 4, none⟩ (.pointer none)).setCell ⟨C, 5, none⟩ (.slice none 0 0)) := by
    have r2 := cq (i := 4) (u := .pointer none) r1
    have r3 := cq (i := 5) (u := .slice none 0 0) r2
    have hoth : ∀ j, j ≠ C → ((w1.setCell ⟨C, 4, none⟩ (.pointer none)).setCell ⟨C, 5, none⟩ (.slice none 0 0)).heap[j]? = w1.heap[j]? := fun j hj => (heap_setCell_other _ ⟨C, 5, none⟩ j _ hj).trans (heap_setCell_other _ ⟨C, 4, none⟩ j _ hj)
    have K := h.b.parts (P' := P) (X' := X) (Y := fun j => bv.ownBlock = some j) (w' := (w1.setCell ⟨C, 4, none⟩ (.pointer none)).setCell ⟨C, 5, none⟩ (.slice none 0 0)) h.row (fun j hj hn hp hl => ⟨(hoth j hj).trans (s5 j hl hn), hp, Iff.rfl⟩) h.b.xb
    have k1 := K.own fun g hg q => h.b.wb hg q
    have k2 := K.im fun g hg q => h.b.bi q hg
    have hsz : ((w1.setCell ⟨C, 4, none⟩ (.pointer none)).setCell ⟨C, 5, none⟩ (.slice none 0 0)).heap.size = w1.heap.size := by simp [World.setCell]
    refine ⟨P, X, ⟨wv, iv, cv, .pointer none, .slice none 0 0, Ms, r3, k1.1, K.msg, k2.1, h.b.nd, K.cu, .inl rfl, World.ownsRow_nil _ _ _ _, h.b.xw, h.b.xi, (fun g hg => by cases hg), h.b.xC, h.b.xP, fun g hg => by rw [hsz]; exact Nat.lt_of_lt_of_le (h.b.xl g hg) s4⟩, ⟨s1, s2, s3, by rw [hsz]; exact s4, fun j hj hn => ?_⟩, fun _ _ q => q, fun _ _ q => q⟩
    exact (hoth j (fun e => hn (e ▸ h.b.xC))).trans (s5 j hj fun q => hn (h.b.xb j q))
  have HF := Lib.hid FIN
  clear FIN h r1 s1 s2 s3 s4 s5 ks H hCl
  go_wp2_with fail
  refine Calls.mono (show Calls _ _ _ _ _ from kr) ?_
  rintro e w2 ⟨rfl, hw2⟩
  have HF2 : Hid (em P X C w { s with out := [] } w2) := by rw [hw2]; exact HF
  clear kr hw2 HF
  go_wp2_with fail
  go_ret
  exact ⟨rfl, HF2.out⟩
def MsgsAt (W : World) (v : Value) (ys : List (Mg × Ls)) : Prop :=
  ∃ a c, v = .slice a ys.length c ∧ ys.length ≤ c ∧ (ys ≠ [] → ∃ g o, a = some ⟨g, o, none⟩ ∧ ∀ j y, ys[j]? = some y → W.rangeAt g (o + j * 28) y.1.row.toList ∧ MgM W y.1 y.2)
theorem MsgsAt.below {w w' : World} {v : Value} {ys : List (Mg × Ls)} (h : MsgsAt w v ys) (hb : Below w.heap.size w w') : MsgsAt w' v ys := by
  obtain ⟨a, c, h1, h2, h3⟩ := h
  refine ⟨a, c, h1, h2, fun hne => ?_⟩
  obtain ⟨g, o, e, h4⟩ := h3 hne
  refine ⟨g, o, e, fun j y hj => ?_⟩
  obtain ⟨q1, q2⟩ := h4 j y hj
  exact ⟨fun k x hk => (hb.cell (bj (q1 k x hk))).trans (q1 k x hk), q2.below hb⟩
/-- Bytes that are no request. -/
def badF (b : List UInt8) : Bool := if (eA b).2 ≠ 0 then true else match dy (b.take (eA b).1) with
  | .error _ => true
  | .ok y => !fC.contains y.1.op || (y.1.id == 0 && decide (0 ≤ gk y.1.op))
theorem reply_iff (op : Int) (h : fC.contains op = true) : decide (0 ≤ gk op) = !gq op := by
  have hm := List.contains_iff_mem.1 h
  simp only [fC, List.mem_cons, List.not_mem_nil, or_false] at hm
  rcases hm with rfl | rfl | rfl | rfl | rfl | rfl | rfl | rfl | rfl | rfl <;> decide
theorem feed_gone {s : Cs} {b : List UInt8} (hcl : s.cl = false) (hin : s.inn = []) (hms : s.ms.length < 16) (h20 : (eA b).2 ≠ 20) (hle : (eA b).2 = 0 → (eA b).1 ≤ b.length) (hb : badF b = true) : s.feed b = { out := s.out ++ Dx, cl := true } := by
  obtain ⟨inn, ms, cur, out, cl⟩ := s
  simp only at hcl hin hms
  subst hcl hin
  unfold Cs.feed
  rw [if_neg (by simp)]
  simp only [List.nil_append, List.length_nil]
  unfold Cs.cut
  rw [if_neg (by rintro (q | q); cases q; exact absurd q (by simp only; omega))]
  unfold badF at hb
  obtain ⟨⟨k, c⟩, hF⟩ : ∃ F, eA b = F := ⟨_, rfl⟩
  simp only [hF] at hb h20 hle ⊢
  rw [if_neg (by rintro (q | q); exact h20 q; have := hle q.1; have := q.2; omega)]
  by_cases hc : c = 0
  · subst hc
    rw [if_neg (by decide)]
    simp only [ne_eq, not_true, if_false] at hb
    cases hr : dy (b.take k) with
    | error e => rfl
    | ok y =>
      rw [hr] at hb
      simp only at hb ⊢
      have hbb : Cs.badB ⟨b, ms, cur, out, false⟩ y = true := by
        unfold Cs.badB
        cases hq : fC.contains y.1.op with
        | false => rfl
        | true =>
          rw [hq, reply_iff _ hq] at hb
          simp only [Bool.not_true, Bool.false_or, Bool.and_eq_true] at hb ⊢
          rw [hb.1, hb.2]
          exact ⟨rfl, rfl⟩
      rw [hbb]
      rfl
  · rw [if_pos hc]
    rfl
theorem mgm1 {w : World} {m : Mg} {l : Ls} (h : MgM w m l) : m.row.all (·.oneCell') = true := by
  obtain ⟨a1, c1, e1⟩ := h.filt.shape
  obtain ⟨a2, c2, e2, -, -⟩ := h.sel
  obtain ⟨a3, c3, e3, -, -⟩ := h.mods
  obtain ⟨a4, c4, e4, -, -⟩ := h.attrs
  obtain ⟨a5, c5, e5, -, -⟩ := h.ctl
  exact Mg.one m ⟨by rw [e5]; rfl, by rw [e1]; rfl, by rw [e2]; rfl, by rw [e3]; rfl, by rw [e4]; rfl⟩
def BdRel (w0 : World) (C n : Nat) (i : Value) (wr : World) : Prop :=
  ∃ (j : Nat) (s : Cs) (P X : Nat → Prop), j ≤ n ∧ i = .int .i64 (j : Int) ∧ dc P X C s wr ∧ Hm w0 X wr ∧ s.cl = false ∧ s.inn = [] ∧ s.cur = none ∧ s.out = [] ∧ s.ms.length ≤ j ∧ ∀ k ∈ s.ids, k ≤ (j : Int)
set_option maxRecDepth 100000 in
set_option maxHeartbeats 8000000 in
theorem ConnBad_any (v : Value) (ys : List (Mg × Ls)) (b more : List UInt8) (w : World) (hv : MsgsAt w v ys) (hk : ∀ y ∈ ys, LsOk y.1 y.2) (hE : Env w) :
    Calls Tryz.prog 3 #[v, .string ⟨b.toArray⟩, .string ⟨more.toArray⟩] w fun e w' => e = .returned (.bool true) ∧ Below w.heap.size w w' := by
  obtain ⟨n, hn⟩ : ∃ n, ys.length = n := ⟨_, rfl⟩
  obtain ⟨av, cap, rfl⟩ : ∃ a c, v = .slice a n c := by obtain ⟨a, c, h1, _⟩ := hv; exact ⟨a, c, by rw [h1, hn]⟩
  have HV := Lib.hid hv
  have HK := Lib.hid hk
  have HN := Lib.hid hn
  have bw := Below.refl w.heap.size w
  clear hv hk hn
  go_enter Tryz.func3, Tryz.ntmps3
  by_cases h10 : 10 < n
  · have d10 : decide ((n : Int) > 10) = true := decide_eq_true (by omega)
    have ka := lA w (hE)
    go_wp2_with fail
    refine Calls.mono (show Calls _ _ _ _ _ from ka) ?_
    rintro e wE ⟨rfl, hbE⟩
    have bE := cM bw hbE
    clear ka hbE
    go_wp2_with fail
    go_ret
    exact ⟨rfl, bE⟩
  · have d10 : decide ((n : Int) > 10) = false := decide_eq_false (by omega)
    by_cases h3b : 3000 < b.length
    · have db : decide ((b.length : Int) > 3000) = true := decide_eq_true (by omega)
      have ka := lA w (hE)
      go_wp2_with fail
      refine Calls.mono (show Calls _ _ _ _ _ from ka) ?_
      rintro e wE ⟨rfl, hbE⟩
      have bE := cM bw hbE
      clear ka hbE
      go_wp2_with fail
      go_ret
      exact ⟨rfl, bE⟩
    · have db : decide ((b.length : Int) > 3000) = false := decide_eq_false (by omega)
      by_cases h3m : 3000 < more.length
      · have dm : decide ((more.length : Int) > 3000) = true := decide_eq_true (by omega)
        have ka := lA w (hE)
        go_wp2_with fail
        refine Calls.mono (show Calls _ _ _ _ _ from ka) ?_
        rintro e wE ⟨rfl, hbE⟩
        have bE := cM bw hbE
        clear ka hbE
        go_wp2_with fail
        go_ret
        exact ⟨rfl, bE⟩
      · have dm : decide ((more.length : Int) > 3000) = false := decide_eq_false (by omega)
        have kf := CS b (by omega) w
        have hge : (eA b).2 = 0 → 2 ≤ (eA b).1 := fun q => by have := mh b q; unfold eA; simp only; omega
        obtain ⟨k, hkq⟩ : ∃ k, (eA b).1 = k := ⟨_, rfl⟩
        obtain ⟨c, hcq⟩ : ∃ c, (eA b).2 = c := ⟨_, rfl⟩
        rw [hkq, hcq] at kf hge
        have HKC := Lib.hid (show _ ∧ _ ∧ _ from ⟨hkq, hcq, hge⟩)
        have HL := Lib.hid (show n ≤ 10 ∧ b.length ≤ 3000 ∧ more.length ≤ 3000 from ⟨by omega, by omega, by omega⟩)
        have HEV := Lib.hid hE
        clear hkq hcq hge h10 h3b h3m hE bw
        go_wp2_with fail
        refine Calls.mono (show Calls _ _ _ _ _ from kf) ?_
        rintro e w2 ⟨rfl, b2⟩
        clear kf d10 db dm
        by_cases h20 : c = 20
        · have e20 : (c == 20) = true := by rw [h20]; rfl
          have ka := lA w2 (HEV.out.below b2)
          go_wp2_with fail
          refine Calls.mono (show Calls _ _ _ _ _ from ka) ?_
          rintro e wE ⟨rfl, hbE⟩
          have bE := cM b2 hbE
          clear ka hbE
          go_wp2_with fail
          go_ret
          exact ⟨rfl, bE⟩
        · have e20 : (c == 20) = false := beq_false_of_ne h20
          have HBF : ∃ bf, badF b = bf := ⟨_, rfl⟩
          obtain ⟨bf, hbf⟩ := HBF
          have HBF := Lib.hid hbf
          clear hbf
          by_cases hlt : c = 0 ∧ b.length < k
          · obtain ⟨rfl, hlk⟩ := hlt
            have dg : decide ((k : Int) > (b.length : Int)) = true := decide_eq_true (by omega)
            have ka := lA w2 (HEV.out.below b2)
            go_wp2_with fail
            refine Calls.mono (show Calls _ _ _ _ _ from ka) ?_
            rintro e wE ⟨rfl, hbE⟩
            have bE := cM b2 hbE
            clear ka hbE
            go_wp2_with fail
            go_ret
            exact ⟨rfl, bE⟩
          · obtain ⟨w3, hw3⟩ : ∃ x, x = w2 := ⟨_, rfl⟩
            have hkb : c = 0 → k ≤ b.length := fun q => by
              rcases Nat.lt_or_ge b.length k with r | r
              · exact absurd ⟨q, r⟩ hlt
              · exact r
            have f20 : (eA b).2 ≠ 20 := by rw [HKC.out.2.1]; exact h20
            have fle : (eA b).2 = 0 → (eA b).1 ≤ b.length := by rw [HKC.out.1, HKC.out.2.1]; exact hkb
            have fgone : ∀ s : Cs, s.cl = false → s.inn = [] → s.ms.length < 16 → bf = true → s.feed b = { out := s.out ++ Dx, cl := true } := fun s h1 h2 h3 h4 => feed_gone h1 h2 h3 f20 fle (by rw [HBF.out]; exact h4)
            clear hkb f20 fle
            have FG := Lib.hid fgone
            clear fgone
            by_cases hc0 : c = 0
            case' pos =>
              have hkl : k ≤ b.length := by
                rcases Nat.lt_or_ge b.length k with q | q
                · exact absurd ⟨hc0, q⟩ hlt
                · exact q
              have e0 : (c == 0) = true := by rw [hc0]; rfl
              have n0 : (c != 0) = false := by rw [bne, e0]; rfl
              have dg : decide ((k : Int) > (b.length : Int)) = false := decide_eq_false (by omega)
              have dg2 : decide (b.length < k) = false := decide_eq_false (by omega)
              have hk1 : (k : Int) ≤ (b.length : Int) := by omega
              have hx : (⟨b.toArray⟩ : ByteArray).extract 0 k = ⟨(b.take k).toArray⟩ := by rw [Lib.extract_eq]; simp
              have kr := lG (b.take k) (by rw [List.length_take]; have := HL.out.2.1; omega) w2 (HEV.out.below b2)
              go_upto_if 57 with fail
              go_cut [9, 10, 11] from 58 to 83 (fun v _ _ wx => v = .bool bf ∧ Below w.heap.size w wx)
              case first =>
                go_wp2_with fail
                refine Calls.mono (show Calls _ _ _ _ _ from kr) ?_
                rintro e w4 hP
                obtain ⟨D, cd, id, op, rfl, hQ, hb4⟩ := hP.parts
                have HQ := Lib.hid hQ
                have HD1 := Lib.hid hQ.2.2.2.1
                have HD2 := Lib.hid hQ.2.2.1
                have y4 : (w4.alloc (.cells #[.int .i64 0, .int .i64 0, .string ⟨#[]⟩, .int .i64 0, .bool false, .string ⟨#[]⟩, .int .i64 0, .int .i64 0, .int .i64 0, .int .i64 0, .bool false, .slice none 0 0, .slice none 0 0, .slice none 0 0, .slice none 0 0, .string ⟨#[]⟩, .string ⟨#[]⟩, .bool false, .bool false, .string ⟨#[]⟩, .string ⟨#[]⟩, .string ⟨#[]⟩, .bool false, .int .i64 0, .int .i64 0, .string ⟨#[]⟩, .string ⟨#[]⟩, .slice none 0 0] 33)).heap[w4.heap.size]? = some (.cells #[.int .i64 0, .int .i64 0, .string ⟨#[]⟩, .int .i64 0, .bool false, .string ⟨#[]⟩, .int .i64 0, .int .i64 0, .int .i64 0, .int .i64 0, .bool false, .slice none 0 0, .slice none 0 0, .slice none 0 0, .slice none 0 0, .string ⟨#[]⟩, .string ⟨#[]⟩, .bool false, .bool false, .string ⟨#[]⟩, .string ⟨#[]⟩, .string ⟨#[]⟩, .bool false, .int .i64 0, .int .i64 0, .string ⟨#[]⟩, .string ⟨#[]⟩, .slice none 0 0] 33 (0, 0)) := bC _ _ _ rfl
                have e4 := setRow_heap (w4.alloc (.cells #[.int .i64 0, .int .i64 0, .string ⟨#[]⟩, .int .i64 0, .bool false, .string ⟨#[]⟩, .int .i64 0, .int .i64 0, .int .i64 0, .int .i64 0, .bool false, .slice none 0 0, .slice none 0 0, .slice none 0 0, .slice none 0 0, .string ⟨#[]⟩, .string ⟨#[]⟩, .bool false, .bool false, .string ⟨#[]⟩, .string ⟨#[]⟩, .string ⟨#[]⟩, .bool false, .int .i64 0, .int .i64 0, .string ⟨#[]⟩, .string ⟨#[]⟩, .slice none 0 0] 33)) w4.heap.size _ D _ _ y4
                have g4 : Below w4.heap.size w4 ((w4.alloc (.cells #[.int .i64 0, .int .i64 0, .string ⟨#[]⟩, .int .i64 0, .bool false, .string ⟨#[]⟩, .int .i64 0, .int .i64 0, .int .i64 0, .int .i64 0, .bool false, .slice none 0 0, .slice none 0 0, .slice none 0 0, .slice none 0 0, .string ⟨#[]⟩, .string ⟨#[]⟩, .bool false, .bool false, .string ⟨#[]⟩, .string ⟨#[]⟩, .string ⟨#[]⟩, .bool false, .int .i64 0, .int .i64 0, .string ⟨#[]⟩, .string ⟨#[]⟩, .slice none 0 0] 33)).setRow w4.heap.size D) := bm ((Below.refl _ _).alloc (Nat.le_refl _) _) (Nat.le_refl _) D
                have b5 := cM b2 (cM hb4 g4)
                have q0 : ((w4.alloc (.cells #[.int .i64 0, .int .i64 0, .string ⟨#[]⟩, .int .i64 0, .bool false, .string ⟨#[]⟩, .int .i64 0, .int .i64 0, .int .i64 0, .int .i64 0, .bool false, .slice none 0 0, .slice none 0 0, .slice none 0 0, .slice none 0 0, .string ⟨#[]⟩, .string ⟨#[]⟩, .bool false, .bool false, .string ⟨#[]⟩, .string ⟨#[]⟩, .string ⟨#[]⟩, .bool false, .int .i64 0, .int .i64 0, .string ⟨#[]⟩, .string ⟨#[]⟩, .slice none 0 0] 33)).setRow w4.heap.size D).cell? ⟨w4.heap.size, 0, none⟩ = some (.int .i64 id) := (Lib.cell_of_heap e4 0).trans hQ.1
                have q1 : ((w4.alloc (.cells #[.int .i64 0, .int .i64 0, .string ⟨#[]⟩, .int .i64 0, .bool false, .string ⟨#[]⟩, .int .i64 0, .int .i64 0, .int .i64 0, .int .i64 0, .bool false, .slice none 0 0, .slice none 0 0, .slice none 0 0, .slice none 0 0, .string ⟨#[]⟩, .string ⟨#[]⟩, .bool false, .bool false, .string ⟨#[]⟩, .string ⟨#[]⟩, .string ⟨#[]⟩, .bool false, .int .i64 0, .int .i64 0, .string ⟨#[]⟩, .string ⟨#[]⟩, .slice none 0 0] 33)).setRow w4.heap.size D).cell? ⟨w4.heap.size, 1, none⟩ = some (.int .i64 op) := (Lib.cell_of_heap e4 1).trans hQ.2.1
                have Y4 := Lib.hid y4
                have B5 := Lib.hid b5
                have Q0 := Lib.hid q0
                have Q1 := Lib.hid q1
                clear kr hP hQ hb4 y4 e4 g4 b5 q0 q1 hx
                go_upto_region 9 with (refine bh rfl 33 (.tmp 10) (.tmp 63) rfl w4.heap.size 33 #[.int .i64 0, .int .i64 0, .string ⟨#[]⟩, .int .i64 0, .bool false, .string ⟨#[]⟩, .int .i64 0, .int .i64 0, .int .i64 0, .int .i64 0, .bool false, .slice none 0 0, .slice none 0 0, .slice none 0 0, .slice none 0 0, .string ⟨#[]⟩, .string ⟨#[]⟩, .bool false, .bool false, .string ⟨#[]⟩, .string ⟨#[]⟩, .string ⟨#[]⟩, .bool false, .int .i64 0, .int .i64 0, .string ⟨#[]⟩, .string ⟨#[]⟩, .slice none 0 0] D (by rfl) (by rfl) Y4.out (by rw [HD2.out]; rfl) (by rw [HD2.out]; rfl) HD1.out ?_; generalize ((w4.alloc (.cells #[.int .i64 0, .int .i64 0, .string ⟨#[]⟩, .int .i64 0, .bool false, .string ⟨#[]⟩, .int .i64 0, .int .i64 0, .int .i64 0, .int .i64 0, .bool false, .slice none 0 0, .slice none 0 0, .slice none 0 0, .slice none 0 0, .string ⟨#[]⟩, .string ⟨#[]⟩, .bool false, .bool false, .string ⟨#[]⟩, .string ⟨#[]⟩, .string ⟨#[]⟩, .bool false, .int .i64 0, .int .i64 0, .string ⟨#[]⟩, .string ⟨#[]⟩, .slice none 0 0] 33)).setRow w4.heap.size D) = w5 at B5 Q0 Q1 ⊢; clear Y4)
                have q0 := Q0.out
                have q1 := Q1.out
                by_cases hcd : cd = 0
                · have ecd : (cd == 0) = true := by rw [hcd]; rfl
                  have ncd : (cd != 0) = false := by rw [bne, ecd]; rfl
                  obtain ⟨y, m, hy, hD, hm, hl, hid, hop⟩ : ∃ (y : Mg × Ls) (m : Mg), dy (b.take k) = .ok y ∧ D = m.row ∧ m.pl = y.1 ∧ LsL w2.heap.size w4 m y.2 ∧ id = y.1.id ∧ op = y.1.op := by
                    rcases HQ.out.2.2.2.2 with q | q
                    · exact absurd hcd q.1
                    · exact q.2
                  have hbf : (!fC.contains op || (id == 0 && decide (0 ≤ gk op))) = bf := by
                    rw [← HBF.out]
                    unfold badF
                    rw [HKC.out.1, HKC.out.2.1, if_neg (by simpa using hc0), hy, hid, hop]
                  have HB2 := Lib.hid hbf
                  clear hy hD hm hl hid hop hbf hcd
                  have kq := s5 op w5
                  obtain ⟨rq, hrq⟩ : ∃ x, fC.contains op = x := ⟨_, rfl⟩
                  rw [hrq] at kq
                  have HRQ := Lib.hid hrq
                  clear hrq
                  go_wp2_with fail
                  refine Calls.mono (show Calls _ _ _ _ _ from kq) ?_
                  rintro e w6 ⟨rfl, hb6⟩
                  have b6 := cM B5.out hb6
                  have q0' := (hb6.cell (bj q0)).trans q0
                  have q1' := (hb6.cell (bj q1)).trans q1
                  clear kq hb6 q0 q1 Q0 Q1
                  cases rq with
                  | false =>
                    obtain rfl : bf = true := by rw [← HB2.out, HRQ.out]; rfl
                    go_wp2_with fail
                    go_meet
                    exact ⟨rfl, b6⟩
                  | true =>
                    cases hz : (id == 0) with
                    | false =>
                      obtain rfl : bf = false := by rw [← HB2.out, HRQ.out, hz]; rfl
                      go_wp2_with fail
                      go_meet
                      exact ⟨rfl, b6⟩
                    | true =>
                      have kp := s8 op w6
                      obtain ⟨rp, hrp⟩ : ∃ x, gk op = x := ⟨_, rfl⟩
                      obtain ⟨ge, hge⟩ : ∃ x, decide (0 ≤ rp) = x := ⟨_, rfl⟩
                      rw [hrp] at kp
                      have hge2 : decide (rp ≥ 0) = ge := hge
                      obtain rfl : bf = ge := by rw [← HB2.out, HRQ.out, hz, hrp, hge]; rfl
                      clear hrp
                      go_wp2_with fail
                      refine Calls.mono (show Calls _ _ _ _ _ from kp) ?_
                      rintro e w7 ⟨rfl, hb7⟩
                      have b7 := cM b6 hb7
                      clear kp hb7
                      go_wp2_with fail
                      go_meet
                      exact ⟨rfl, b7⟩
                · have ecd : (cd == 0) = false := beq_false_of_ne hcd
                  have ncd : (cd != 0) = true := by rw [bne, ecd]; rfl
                  obtain rfl : bf = true := by
                    rw [← HBF.out]
                    unfold badF
                    rw [HKC.out.1, HKC.out.2.1, if_neg (by simpa using hc0)]
                    rcases HQ.out.2.2.2.2 with q | q
                    · obtain ⟨x, hx⟩ := q.2.2
                      rw [hx]
                    · exact absurd q.1 hcd
                  go_wp2_with fail
                  go_meet
                  exact ⟨rfl, B5.out⟩
              obtain ⟨rfl, bc⟩ := hcut
              cases bf
              case false =>
                have ka := lA wc (HEV.out.below bc)
                go_wp2_with fail
                refine Calls.mono (show Calls _ _ _ _ _ from ka) ?_
                rintro e wE ⟨rfl, hbE⟩
                have bE := cM bc hbE
                clear ka hbE
                go_wp2_with fail
                go_ret
                exact ⟨rfl, bE⟩
            case' neg =>
              have e0 : (c == 0) = false := beq_false_of_ne hc0
              have n0 : (c != 0) = true := by rw [bne, e0]; rfl
              obtain rfl : bf = true := by
                rw [← HBF.out]
                unfold badF
                rw [HKC.out.2.1, if_pos (by simpa using hc0)]
              go_upto_if 57 with fail
              go_cut [9, 10, 11] from 58 to 83 (fun v _ _ wx => v = .bool true ∧ Below w.heap.size w wx)
              case first =>
                go_wp2_with fail
                go_meet
                exact ⟨rfl, b2⟩
              obtain ⟨rfl, bc⟩ := hcut
            all_goals
              have kn := nM wc
              have BC := Lib.hid bc
              clear hc0 e0 n0 b2 e20 hlt h20 bc
              go_wp2_with fail
              refine Calls.mono (show Calls _ _ _ _ _ from kn) ?_
              rintro e w5 ⟨rfl, h5, b5⟩
              have m5 : Hm w (Xc wc.heap.size) w5 := ⟨HEV.out, cM BC.out b5, fun g hg => by rw [show g = _ from hg]; exact BC.out.size⟩
              have BD := Lib.hid (show BdRel w wc.heap.size n (.int .i64 0) w5 from ⟨0, {}, _, _, Nat.zero_le _, rfl, h5, m5, rfl, rfl, rfl, rfl, Nat.le_refl _, fun k hk => by cases hk⟩)
              clear kn h5 m5 b5
              generalize wc.heap.size = C at BD ⊢
              go_wp2_with fail
              go_loopw [13] (fun i wr => BdRel w C n i wr) (fun i _ => n - (RowKit.intOf i).toNat)
              case atStart => exact BD.out
              clear BD
              obtain ⟨j, s, P, X, hj, rfl, hcn, hhm, hcl, hin, hcu, hou, hml, hid⟩ := hrel
              by_cases hlt : j < n
              · have g1 : decide ((j : Int) < (n : Int)) = true := decide_eq_true (by omega)
                have hk1 : (j : Int) < (n : Int) := by omega
                obtain ⟨y, hy⟩ : ∃ y, ys[j]? = some y := ⟨_, List.getElem?_eq_getElem (by rw [HN.out]; exact hlt)⟩
                obtain ⟨a0, q0, e0, _, hq⟩ := HV.out
                obtain ⟨g, o, ea, hqq⟩ := hq (by intro e; rw [e] at hy; cases hy)
                injection e0 with e1 e2 e3
                rw [ea] at e1
                subst e1
                obtain ⟨hr0, hm0⟩ := hqq j y hy
                have hbel := hhm.bel
                have hrng : wr.rangeAt g (o + j * 28) y.1.row.toList := fun i x hi => (hbel.cell (bj (hr0 i x hi))).trans (hr0 i x hi)
                have hmr : MgM wr y.1 y.2 := hm0.below hbel
                obtain ⟨m, hm⟩ : ∃ x : Mg, { y.1 with id := ((j : Int) + 1) } = x := ⟨_, rfl⟩
                have hmid : m.id = (j : Int) + 1 := by rw [← hm]
                have hrow : y.1.row.setIfInBounds 0 (.int .i64 ((j : Int) + 1)) = m.row := by rw [← hm]; rfl
                have hkk : LsOk m y.2 := by rw [← hm]; exact (HK.out y (List.mem_of_getElem? hy)).id7 _
                have hmm : MgM wr m y.2 := by rw [← hm]; exact hmr.id7 _
                obtain ⟨D, hD⟩ : ∃ D, y.1.row = D := ⟨_, rfl⟩
                have hD2 : D.size = 28 := by rw [← hD]; rfl
                have hD3 : D.all (·.oneCell') = true := by rw [← hD]; exact mgm1 hmr
                have hD0 : D[0]? = some (.int .i64 y.1.id) := by rw [← hD]; rfl
                have HD0 := Lib.hid hD0
                rw [hD] at hrng hrow
                have HD2 := Lib.hid hD2
                have HD3 := Lib.hid hD3
                have HRN := Lib.hid hrng
                have H33 := Lib.hid (show _ ∧ _ ∧ _ ∧ _ from ⟨hmid, hrow, hkk, hmm⟩)
                have HC := Lib.hid hcn
                have HH := Lib.hid hhm
                have HS := Lib.hid (show _ ∧ _ ∧ _ ∧ _ ∧ _ ∧ _ from ⟨hcl, hin, hcu, hou, hml, hid⟩)
                have Y4 := Lib.hid (show (wr.alloc (.cells #[.int .i64 0, .int .i64 0, .string ⟨#[]⟩, .int .i64 0, .bool false, .string ⟨#[]⟩, .int .i64 0, .int .i64 0, .int .i64 0, .int .i64 0, .bool false, .slice none 0 0, .slice none 0 0, .slice none 0 0, .slice none 0 0, .string ⟨#[]⟩, .string ⟨#[]⟩, .bool false, .bool false, .string ⟨#[]⟩, .string ⟨#[]⟩, .string ⟨#[]⟩, .bool false, .int .i64 0, .int .i64 0, .string ⟨#[]⟩, .string ⟨#[]⟩, .slice none 0 0] 33)).heap[wr.heap.size]? = some (.cells #[.int .i64 0, .int .i64 0, .string ⟨#[]⟩, .int .i64 0, .bool false, .string ⟨#[]⟩, .int .i64 0, .int .i64 0, .int .i64 0, .int .i64 0, .bool false, .slice none 0 0, .slice none 0 0, .slice none 0 0, .slice none 0 0, .string ⟨#[]⟩, .string ⟨#[]⟩, .bool false, .bool false, .string ⟨#[]⟩, .string ⟨#[]⟩, .string ⟨#[]⟩, .bool false, .int .i64 0, .int .i64 0, .string ⟨#[]⟩, .string ⟨#[]⟩, .slice none 0 0] 33 (0, 0)) from bC _ _ _ rfl)
                clear hD hD0 hD2 hD3 hrng hmid hrow hkk hmm hcn hhm hcl hin hcu hou hml hid hm hmr hr0 hm0 hbel hqq hq e2 e3 ea hy
                go_upto_region 17 with (first
                  | (refine wpList_load_mid rfl 33 (.tmp 96) rfl g (o + j * 28) (by rfl) D.toList _ HRN.out Tryz.underlying33 rfl (by rw [Array.length_toList, HD2.out]; rfl) ?_; rw [Array.toArray_toList])
                  | (refine bh rfl 33 (.tmp 14) (.tmp 97) rfl wr.heap.size 33 #[.int .i64 0, .int .i64 0, .string ⟨#[]⟩, .int .i64 0, .bool false, .string ⟨#[]⟩, .int .i64 0, .int .i64 0, .int .i64 0, .int .i64 0, .bool false, .slice none 0 0, .slice none 0 0, .slice none 0 0, .slice none 0 0, .string ⟨#[]⟩, .string ⟨#[]⟩, .bool false, .bool false, .string ⟨#[]⟩, .string ⟨#[]⟩, .string ⟨#[]⟩, .bool false, .int .i64 0, .int .i64 0, .string ⟨#[]⟩, .string ⟨#[]⟩, .slice none 0 0] D (by rfl) (by rfl) Y4.out (by rw [HD2.out]; rfl) (by rw [HD2.out]; rfl) HD3.out ?_; generalize hw5 : ((wr.alloc (.cells #[.int .i64 0, .int .i64 0, .string ⟨#[]⟩, .int .i64 0, .bool false, .string ⟨#[]⟩, .int .i64 0, .int .i64 0, .int .i64 0, .int .i64 0, .bool false, .slice none 0 0, .slice none 0 0, .slice none 0 0, .slice none 0 0, .string ⟨#[]⟩, .string ⟨#[]⟩, .bool false, .bool false, .string ⟨#[]⟩, .string ⟨#[]⟩, .string ⟨#[]⟩, .bool false, .int .i64 0, .int .i64 0, .string ⟨#[]⟩, .string ⟨#[]⟩, .slice none 0 0] 33)).setRow wr.heap.size D) = w5 at ⊢))
                have y5 : w5.heap[wr.heap.size]? = some (.cells D 33 (0, 0)) := by rw [← hw5]; exact setRow_heap _ wr.heap.size _ D _ _ Y4.out
                have b5 : Below wr.heap.size wr w5 := by rw [← hw5]; exact bm ((Below.refl _ _).alloc (Nat.le_refl _) _) (Nat.le_refl _) D
                have z5 := Lib.frozen_of_heap y5 0
                have c5 := (Lib.cell_of_heap y5 0).trans HD0.out
                have y6 := cq (i := 0) (u := .int .i64 ((j : Int) + 1)) y5
                have b6 : Below wr.heap.size wr (w5.setCell ⟨wr.heap.size, 0, none⟩ (.int .i64 ((j : Int) + 1))) := b5.setCell (Nat.le_refl _) _
                rw [H33.out.2.1] at y6
                clear hw5 Y4 b5 HRN
                have hwr : wrap64 ((j : Int) + 1) = (j : Int) + 1 := by have := HL.out.1; unfold wrap64; omega
                go_upto_region 18 with fail
                rw [hwr]
                generalize hw6 : w5.setCell ⟨wr.heap.size, 0, none⟩ (.int .i64 ((j : Int) + 1)) = w6 at y6 b6 ⊢
                clear z5 c5 y5 hw6 hwr
                obtain ⟨A, hA⟩ : ∃ A, m.row = A := ⟨_, rfl⟩
                have hA2 : A.size = 28 := by rw [← hA]; rfl
                have hA1 : A[1]? = some (.int .i64 m.op) := by rw [← hA]; rfl
                have kw := fa m y.2 w6 (H33.out.2.2.2.below b6) H33.out.2.2.1 (HH.out.now.below b6)
                rw [hA] at y6 kw
                have hlen := jM (m := m) (l := y.2)
                obtain ⟨t, ht⟩ : ∃ t, (cR m y.2).1 = t := ⟨_, rfl⟩
                obtain ⟨cd, hcd⟩ : ∃ c, (cR m y.2).2 = c := ⟨_, rfl⟩
                obtain ⟨op, hop⟩ : ∃ op, m.op = op := ⟨_, rfl⟩
                rw [ht, hcd] at kw hlen
                rw [hop] at hA1
                have HT := Lib.hid (show _ ∧ _ ∧ _ from ⟨ht, hcd, hop⟩)
                have HLN := Lib.hid hlen
                have HA2 := Lib.hid hA2
                have HA1 := Lib.hid hA1
                have KW := Lib.hid kw
                have Y6 := Lib.hid y6
                have B6 := Lib.hid b6
                clear hA hA2 hA1 kw hlen ht hcd hop y6 b6
                go_wp2_with (refine bg rfl 33 (.tmp 14) rfl wr.heap.size 33 A (0, 0) (by rfl) Y6.out _ Tryz.underlying33 rfl (by rw [HA2.out]; rfl) ?_)
                refine Calls.mono (show Calls _ _ _ _ _ from KW.out) ?_
                rintro e w7 ⟨rfl, hb7⟩
                have q1 : w7.cell? ⟨wr.heap.size, 1, none⟩ = some (.int .i64 op) := (Lib.cell_of_heap (bk hb7 Y6.out) 1).trans HA1.out
                have B7 := Lib.hid (cM B6.out hb7)
                clear KW hb7 Y6 B6
                have hnxt : ∀ wx, Below wr.heap.size wr wx → BdRel w C n (.int .i64 ((j + 1 : Nat) : Int)) wx := fun wx hb =>
                  ⟨j + 1, s, P, X, by omega, rfl, HC.out.bel hb, HH.out.bels hb, HS.out.1, HS.out.2.1, HS.out.2.2.1, HS.out.2.2.2.1, Nat.le_succ_of_le HS.out.2.2.2.2.1, fun k hk => by have := HS.out.2.2.2.2.2 k hk; omega⟩
                have HNX := Lib.hid hnxt
                clear hnxt
                by_cases hc0 : cd = 0
                · have ec : (cd == 0) = true := by rw [hc0]; rfl
                  have kr := s8 op w7
                  go_wp2_with fail
                  refine Calls.mono (show Calls _ _ _ _ _ from kr) ?_
                  rintro e w8 ⟨rfl, hb8⟩
                  have B8 := Lib.hid (cM B7.out hb8)
                  clear kr hb8 q1 B7
                  by_cases hr : gk op ≥ 0
                  · have dr : decide (gk op ≥ 0) = true := decide_eq_true hr
                    have hgo := Db hr
                    have hfeed : s.feed t = { s with ms := s.ms ++ [(m.pl, y.2)] } := by
                      have := sC (s := s) (m := m) (l := y.2) (by rw [HT.out.2.1]; exact hc0) HS.out.1 HS.out.2.1 (by have := HS.out.2.2.2.2.1; have := HL.out.1; omega) (by
                        unfold Cs.badB Cs.has
                        rw [HS.out.2.2.1]
                        show (!fC.contains m.op || (!gq m.op && (m.id == 0 || (s.ids.contains m.id || false)))) = false
                        rw [HT.out.2.2, hgo.1, hgo.2.1, H33.out.1]
                        have h1 : ((j : Int) + 1 == 0) = false := beq_false_of_ne (by omega)
                        have h2 : s.ids.contains ((j : Int) + 1) = false := by
                          cases hc : s.ids.contains ((j : Int) + 1) with
                          | false => rfl
                          | true => have := HS.out.2.2.2.2.2 _ (List.contains_iff_mem.1 hc); omega
                        rw [h1, h2]
                        rfl) (by rw [HT.out.2.2]; exact hgo.2.2.1) (by rw [HT.out.2.2]; exact hgo.2.2.2)
                      rw [HT.out.1] at this
                      exact this
                    have h8 := HC.out.bel B8.out
                    have m8 := HH.out.bels B8.out
                    have kf := gF w _ _ _ s t w8 h8 m8 (by rw [HS.out.2.1]; have := HLN.out hc0; show 0 + t.length ≤ 1000000000; omega) (by have := HS.out.2.2.2.2.1; have := HL.out.1; omega) (by rw [HS.out.2.2.2.1]; simp)
                    rw [hfeed] at kf
                    have M8 := Lib.hid m8
                    clear h8 m8 hfeed hgo hr
                    go_wp2_with fail
                    refine Calls.mono (show Calls _ _ _ _ _ from kf) ?_
                    rintro e w9 ⟨rfl, P9, X9, h9, n9⟩
                    have m9 := M8.out.to n9
                    have hrel9 : BdRel w C n (.int .i64 ((j + 1 : Nat) : Int)) w9 := ⟨j + 1, _, P9, X9, by omega, rfl, h9, m9, HS.out.1, HS.out.2.1, HS.out.2.2.1, HS.out.2.2.2.1, by have := HS.out.2.2.2.2.1; simp; omega, fun k hk => by
                      unfold Cs.ids at hk
                      simp only [List.map_append, List.mem_append, List.map_cons, List.map_nil, List.mem_singleton] at hk
                      rcases hk with hk | hk
                      · have := HS.out.2.2.2.2.2 k hk; omega
                      · have : k = m.id := hk
                        rw [this, H33.out.1]
                        omega⟩
                    have HR9 := Lib.hid hrel9
                    clear kf h9 n9 m9 hrel9
                    go_wp2_with fail
                    go_roundw
                    case rel => rw [show wrap64 ((j : Int) + 1) = ((j + 1 : Nat) : Int) by have := HL.out.1; unfold wrap64; omega]; exact HR9.out
                    case measure => rw [show wrap64 ((j : Int) + 1) = ((j + 1 : Nat) : Int) by have := HL.out.1; unfold wrap64; omega]; simp [RowKit.intOf]; omega
                  · have dr : decide (gk op ≥ 0) = false := decide_eq_false hr
                    go_wp2_with fail
                    go_roundw
                    case rel => rw [show wrap64 ((j : Int) + 1) = ((j + 1 : Nat) : Int) by have := HL.out.1; unfold wrap64; omega]; exact HNX.out _ B8.out
                    case measure => rw [show wrap64 ((j : Int) + 1) = ((j + 1 : Nat) : Int) by have := HL.out.1; unfold wrap64; omega]; simp [RowKit.intOf]; omega
                · have ec : (cd == 0) = false := beq_false_of_ne hc0
                  go_wp2_with fail
                  go_roundw
                  case rel => rw [show wrap64 ((j : Int) + 1) = ((j + 1 : Nat) : Int) by have := HL.out.1; unfold wrap64; omega]; exact HNX.out _ B7.out
                  case measure => rw [show wrap64 ((j : Int) + 1) = ((j + 1 : Nat) : Int) by have := HL.out.1; unfold wrap64; omega]; simp [RowKit.intOf]; omega
              · obtain rfl : j = n := by omega
                have g1 : decide ((j : Int) < (j : Int)) = false := decide_eq_false (by omega)
                have kc := iM P X C s wr hcn
                rw [hcl] at kc
                have hfg : s.feed b = { out := Dx, cl := true } := by have := FG.out s hcl hin (by have := HL.out.1; omega) (by trivial); rw [hou] at this; exact this
                have HFG := Lib.hid hfg
                have HC := Lib.hid hcn
                have HH := Lib.hid hhm
                have HS := Lib.hid (show _ ∧ _ ∧ _ from ⟨hin, hou, hml⟩)
                clear hcl hin hcu hou hml hid hcn hhm hfg
                go_wp2_with fail
                refine Calls.mono (show Calls _ _ _ _ _ from kc) ?_
                rintro e w5 ⟨rfl, hb5⟩
                have h5 := HC.out.bel hb5
                have m5 := HH.out.bels hb5
                have kf := gF w _ _ _ s b w5 h5 m5 (by rw [HS.out.1]; have := HL.out.2.1; show 0 + b.length ≤ 1000000000; omega) (by have := HS.out.2.2; have := HL.out.1; omega) (by rw [HS.out.2.1]; simp)
                rw [HFG.out] at kf
                obtain ⟨NB, hNB⟩ : ∃ N, Dx = N := ⟨_, rfl⟩
                have hnl : NB.length ≤ 65536 := by rw [← hNB]; exact jM CT
                have HNB := Lib.hid hNB
                rw [hNB] at kf
                have M5 := Lib.hid m5
                clear kc h5 m5 hb5 hNB HC HH HFG HS
                go_wp2_with fail
                refine Calls.mono (show Calls _ _ _ _ _ from kf) ?_
                rintro e w6 ⟨rfl, P6, X6, h6, n6⟩
                have m6 := M5.out.to n6
                have kt := cTake_any P6 X6 C _ w6 h6
                have M6 := Lib.hid m6
                clear kf h6 n6 m6 M5
                go_wp2_with fail
                refine Calls.mono (show Calls _ _ _ _ _ from kt) ?_
                rintro e w7 ⟨rfl, P7, X7, h7, n7⟩
                have m7 := M6.out.to n7
                have kn := A6 2 [] w7
                obtain ⟨DN, hDN⟩ : ∃ D, Mg.row { op := 24, code := 2, text := [], oid := gY } = D := ⟨_, rfl⟩
                rw [hDN] at kn
                have HDN := Lib.hid hDN
                have H7 := Lib.hid h7
                have M7 := Lib.hid m7
                clear kt h7 n7 m7 M6 hDN
                go_wp2_with fail
                refine Calls.mono (show Calls _ _ _ _ _ from kn) ?_
                rintro e w8 ⟨rfl, hb8⟩
                have kw := fa oM {} w8 (uA _ _ rfl) Dl (M7.out.bels hb8).now
                rw [CT, show (cR oM {}).1 = Dx from rfl, HNB.out, show Mg.row oM = Mg.row { op := 24, code := 2, text := [], oid := gY } from rfl, HDN.out] at kw
                have HB8 := Lib.hid hb8
                clear kn hb8 HDN
                go_wp2_with fail
                refine Calls.mono (show Calls _ _ _ _ _ from kw) ?_
                rintro e w9 ⟨rfl, hb9⟩
                have b9 := cM HB8.out hb9
                have h9 := H7.out.bel b9
                have m9 := M7.out.bels b9
                have kf := gF w _ _ _ _ more w9 h9 m9 (by have := HL.out.2.2; show 0 + more.length ≤ 1000000000; omega) (by simp) (by simp)
                have kf : Calls Tryz.prog 15 #[.pointer (some ⟨C, 0, none⟩), .string ⟨more.toArray⟩] w9 fun e w' => e = .returned (.tuple #[]) ∧ em P7 X7 C w9 { cl := true } w' := kf
                have M9 := Lib.hid m9
                clear kw hb9 b9 h9 m9 H7 M7 HB8
                go_wp2_with fail
                refine Calls.mono (show Calls _ _ _ _ _ from kf) ?_
                rintro e w10 ⟨rfl, P10, X10, h10, n10⟩
                have m10 := M9.out.to n10
                have kx := CL P10 X10 C _ w10 h10 (.inl rfl)
                obtain ⟨D0, hD0⟩ : ∃ D, Mg.row {} = D := ⟨_, rfl⟩
                have hD2 : D0.size = 28 := by rw [← hD0]; rfl
                have hD3 : D0.all (·.oneCell') = true := by rw [← hD0]; exact mgm1 (uA w10 _ rfl)
                rw [hD0] at kx
                have HD2 := Lib.hid hD2
                have HD3 := Lib.hid hD3
                have H10 := Lib.hid h10
                have M10 := Lib.hid m10
                clear kf h10 n10 m10 M9 hD0 hD2 hD3
                go_wp2_with fail
                refine Calls.mono (show Calls _ _ _ _ _ from kx) ?_
                rintro e w11 ⟨rfl, hb11⟩
                have Y4 := Lib.hid (show (w11.alloc (.cells #[.int .i64 0, .int .i64 0, .string ⟨#[]⟩, .int .i64 0, .bool false, .string ⟨#[]⟩, .int .i64 0, .int .i64 0, .int .i64 0, .int .i64 0, .bool false, .slice none 0 0, .slice none 0 0, .slice none 0 0, .slice none 0 0, .string ⟨#[]⟩, .string ⟨#[]⟩, .bool false, .bool false, .string ⟨#[]⟩, .string ⟨#[]⟩, .string ⟨#[]⟩, .bool false, .int .i64 0, .int .i64 0, .string ⟨#[]⟩, .string ⟨#[]⟩, .slice none 0 0] 33)).heap[w11.heap.size]? = some (.cells #[.int .i64 0, .int .i64 0, .string ⟨#[]⟩, .int .i64 0, .bool false, .string ⟨#[]⟩, .int .i64 0, .int .i64 0, .int .i64 0, .int .i64 0, .bool false, .slice none 0 0, .slice none 0 0, .slice none 0 0, .slice none 0 0, .string ⟨#[]⟩, .string ⟨#[]⟩, .bool false, .bool false, .string ⟨#[]⟩, .string ⟨#[]⟩, .string ⟨#[]⟩, .bool false, .int .i64 0, .int .i64 0, .string ⟨#[]⟩, .string ⟨#[]⟩, .slice none 0 0] 33 (0, 0)) from bC _ _ _ rfl)
                have b12 : Below w11.heap.size w11 ((w11.alloc (.cells #[.int .i64 0, .int .i64 0, .string ⟨#[]⟩, .int .i64 0, .bool false, .string ⟨#[]⟩, .int .i64 0, .int .i64 0, .int .i64 0, .int .i64 0, .bool false, .slice none 0 0, .slice none 0 0, .slice none 0 0, .slice none 0 0, .string ⟨#[]⟩, .string ⟨#[]⟩, .bool false, .bool false, .string ⟨#[]⟩, .string ⟨#[]⟩, .string ⟨#[]⟩, .bool false, .int .i64 0, .int .i64 0, .string ⟨#[]⟩, .string ⟨#[]⟩, .slice none 0 0] 33)).setRow w11.heap.size D0) := bm ((Below.refl _ _).alloc (Nat.le_refl _) _) (Nat.le_refl _) D0
                have b12 := cM hb11 b12
                have H12 := Lib.hid (H10.out.bel b12)
                have M12 := Lib.hid (M10.out.bels b12)
                clear kx hb11 b12 H10 M10
                go_upto_region 28 with (refine bh rfl 33 (.tmp 20) (.tmp 135) rfl w11.heap.size 33 #[.int .i64 0, .int .i64 0, .string ⟨#[]⟩, .int .i64 0, .bool false, .string ⟨#[]⟩, .int .i64 0, .int .i64 0, .int .i64 0, .int .i64 0, .bool false, .slice none 0 0, .slice none 0 0, .slice none 0 0, .slice none 0 0, .string ⟨#[]⟩, .string ⟨#[]⟩, .bool false, .bool false, .string ⟨#[]⟩, .string ⟨#[]⟩, .string ⟨#[]⟩, .bool false, .int .i64 0, .int .i64 0, .string ⟨#[]⟩, .string ⟨#[]⟩, .slice none 0 0] D0 (by rfl) (by rfl) Y4.out (by rw [HD2.out]; rfl) (by rw [HD2.out]; rfl) HD3.out ?_; generalize ((w11.alloc (.cells #[.int .i64 0, .int .i64 0, .string ⟨#[]⟩, .int .i64 0, .bool false, .string ⟨#[]⟩, .int .i64 0, .int .i64 0, .int .i64 0, .int .i64 0, .bool false, .slice none 0 0, .slice none 0 0, .slice none 0 0, .slice none 0 0, .string ⟨#[]⟩, .string ⟨#[]⟩, .bool false, .bool false, .string ⟨#[]⟩, .string ⟨#[]⟩, .string ⟨#[]⟩, .bool false, .int .i64 0, .int .i64 0, .string ⟨#[]⟩, .string ⟨#[]⟩, .slice none 0 0] 33)).setRow w11.heap.size D0) = w12 at H12 M12 ⊢; clear Y4)
                have ka := lA w12 M12.out.now
                go_wp2_with fail
                refine Calls.mono (show Calls _ _ _ _ _ from ka) ?_
                rintro e w13 ⟨rfl, hb13⟩
                have h13 := H12.out.bel hb13
                have kc := iM _ _ _ _ w13 h13
                have H13 := Lib.hid h13
                have M13 := Lib.hid (M12.out.bels hb13)
                clear ka hb13 h13 H12 M12
                go_wp2_with fail
                refine Calls.mono (show Calls _ _ _ _ _ from kc) ?_
                rintro e w14 ⟨rfl, hb14⟩
                have h14 := H13.out.bel hb14
                have kw := lY _ _ _ _ w14 h14 (by simp)
                have H14 := Lib.hid h14
                have M14 := Lib.hid (M13.out.bels hb14)
                clear kc hb14 h14 H13 M13
                go_wp2_with fail
                refine Calls.mono (show Calls _ _ _ _ _ from kw) ?_
                rintro e w15 ⟨⟨v, rfl, hv⟩, hb15⟩
                obtain ⟨a, cp, rfl⟩ : ∃ a cap, v = .slice a 0 cap := by
                  rcases hv.2 with ⟨hv, h0⟩ | ⟨g, cap, cur, hv, _⟩
                  · exact ⟨none, 0, hv⟩
                  · exact ⟨_, cap, hv⟩
                have h15 := H14.out.bel hb15
                have kt := cTake_any _ _ _ _ w15 h15
                have M15 := Lib.hid (M14.out.bels hb15)
                clear kw hv hb15 h15 H14 M14
                go_wp2_with fail
                refine Calls.mono (show Calls _ _ _ _ _ from kt) ?_
                rintro e w16 ⟨rfl, P16, X16, h16, n16⟩
                have BE := Lib.hid (M15.out.to n16).bel
                clear kt h16 n16 M15
                go_wp2_with fail
                go_ret
                exact ⟨rfl, BE.out⟩
def buX (l : List (Mg × Ls)) : Nat := (l.map fun y => buG y.1 y.2).sum
set_option maxRecDepth 100000 in
theorem open_msgs {H : Type} {enc : TypeId × Value → H} {W : World} {base : Nat} {spare : Nat → Bool} {held : Bool} {fuel : Nat} {cs : List Value} {x : DataW H × List MemPlace}
    (h : DataW.trod enc Tryz.prog W base spare held fuel 22 cs = some x) : ∃ v l, cs = [v] ∧ MsgsAt W v l ∧ buX l ≤ Rows.uptoBulk x.1 ∧ ∀ y ∈ l, ∀ p ∈ y.2.filt, p.n ≤ 9223372036854775807 := by
  rcases Go.Deep.open_slice Tryz.underlying22 h with ⟨rfl, rfl⟩ | ⟨a, len, cap, m, n, D, Pl, rfl, hb, hl, hm, hmm, rfl, hx⟩
  · exact ⟨_, [], rfl, ⟨none, 0, rfl, Nat.le_refl _, fun h => absurd rfl h⟩, by simp [buX], by simp⟩
  · have hlm : len ≤ m := by rw [hmm]; split <;> omega
    have c28 : Tryz.prog.cellsOf 33 = 28 := by kernel_rfl
    have each : ∀ i, ∃ q : Mg × Ls, i < len → (∀ (k : Nat) (y : Value), q.1.row.toList[k]? = some y → W.cell? (a.add (i * 28 + k)) = some y) ∧ MgM W q.1 q.2 ∧ buG q.1 q.2 ≤ Rows.uptoBulk (D i) ∧ ∀ p ∈ q.2.filt, p.n ≤ 9223372036854775807 := by
      intro i
      by_cases hi : i < len
      · obtain ⟨cs', h1, h2⟩ := hx i (by omega)
        rw [c28] at h1
        obtain ⟨_, hlen, hcell⟩ := World.cells?_some h1
        obtain ⟨m', l', hc, q1, q2, q3⟩ := pu h2
        refine ⟨(m', l'), fun _ => ⟨fun k y hk => ?_, q1, q2, q3⟩⟩
        have hk28 : k < 28 := (List.getElem?_eq_some_iff.1 hk).1
        have e0 := hcell k (by omega)
        rw [Go.Deep.add_add] at e0
        have e1 : cs'[k]? = some y := by rw [hc]; exact hk
        first | rw [e0, e1] | (rw [e0]; have := List.getElem?_eq_some_iff.1 e1; simp [this.2])
      · exact ⟨({}, {}), fun h => absurd h hi⟩
    let f := fun i => Classical.choose (each i)
    have hf := fun i (hi : i < len) => Classical.choose_spec (each i) hi
    have hlen : ((List.range len).map fun i => f i).length = len := by simp
    refine ⟨_, (List.range len).map fun i => f i, rfl, ⟨some a, cap, by rw [hlen], by rw [hlen]; exact hl, fun h0 => ?_⟩, ?_, fun y hy => ?_⟩
    · have hpos : 0 < len := by
        rcases Nat.eq_zero_or_pos len with h | h
        · subst h; exact absurd rfl h0
        · exact h
      obtain ⟨g, o, rfl⟩ := gi ((hf 0 hpos).1 0 _ rfl) (by simp)
      refine ⟨g, o, rfl, fun j y hj => ?_⟩
      have hjl : j < len := by have := (List.getElem?_eq_some_iff.1 hj).1; simpa using this
      rw [List.getElem?_map, List.getElem?_range hjl] at hj
      cases hj
      obtain ⟨g1, g2, _⟩ := hf j hjl
      refine ⟨fun k y hk => ?_, g2⟩
      have := g1 k y hk
      rw [Addr.add_lit, ← Nat.add_assoc] at this
      exact this
    · have := Cn D (fun i => buG (f i).1 (f i).2) len (fun i hi => (hf i hi).2.2.1)
      simp only [Rows.uptoBulk, buX, List.map_map]
      simp only [Function.comp_def] at this ⊢
      omega
    · obtain ⟨i, hi, rfl⟩ := List.mem_map.1 hy
      exact (hf i (List.mem_range.1 hi)).2.2.2
theorem lsOk_all {l : List (Mg × Ls)} (h : buX l ≤ 1048576) (hn : ∀ y ∈ l, ∀ p ∈ y.2.filt, p.n ≤ 9223372036854775807) : ∀ y ∈ l, LsOk y.1 y.2 := fun y hy =>
  tq (by have := gz (fun y : Mg × Ls => buG y.1 y.2) l y hy; unfold buX at h; omega) (hn y hy)
end Go.Proofs.YthpcpdplcicfoaaGreatDoor
