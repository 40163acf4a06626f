/- LdY. -/
import Derived.Test.YtegigcneimjimaaGreatDoorU13
namespace Go.Proofs.YtegigcneimjimaaGreatDoor
open Go.RowKit Go.Lib Go.Shelf
set_option maxRecDepth 100000
set_option maxHeartbeats 16000000
attribute [local go_sem] Oper.semAt_some
theorem Tryz.infoPair : (Tryz.prog.info? 89).map (fun i => (i.zero, i.size, i.bytes)) = some (some (.agg #[.string ⟨#[]⟩, .string ⟨#[]⟩]), 2, 32) := by kernel_rfl
theorem lines_any (s : List UInt8) (w : World) :
    Calls Tryz.prog 31 #[.string ⟨s.toArray⟩] w fun e w' => e = .returned (.func (.func 138) #[] #[.pointer (some ⟨w.heap.size, 0, none⟩)]) ∧ w' = w.alloc (.cells #[.string ⟨s.toArray⟩] 9) := by
  go_enter Tryz.func31, Tryz.ntmps31
  go_wp2
  go_ret
  exact ⟨rfl, rfl⟩
def flatP (l : List Pr) : List Value := l.flatMap fun p => [.string ⟨p.1.toArray⟩, .string ⟨p.2.toArray⟩]
theorem flatP_snoc (l : List Pr) (p : Pr) : flatP (l ++ [p]) = flatP l ++ [.string ⟨p.1.toArray⟩, .string ⟨p.2.toArray⟩] := by simp [flatP]
theorem flatP_get : ∀ (l : List Pr) (j : Nat) (p : Pr), l[j]? = some p → (flatP l)[j * 2]? = some (.string ⟨p.1.toArray⟩) ∧ (flatP l)[j * 2 + 1]? = some (.string ⟨p.2.toArray⟩)
  | [], _, _, h => by simp at h
  | a :: l, 0, p, h => by
    simp only [List.getElem?_cons_zero, Option.some.injEq] at h
    subst h
    exact ⟨rfl, rfl⟩
  | a :: l, j + 1, p, h => by
    have := flatP_get l j p (by simpa using h)
    have e : flatP (a :: l) = .string ⟨a.1.toArray⟩ :: .string ⟨a.2.toArray⟩ :: flatP l := rfl
    rw [e, show (j + 1) * 2 = j * 2 + 2 by omega]
    exact this
def PI (R tB : Nat) (w3 : World) (hi : Nat) (pre : List Pr) (v : Value) (Wq : World) : Prop :=
  Wq.heap[R]? = some (.cells #[v] 84 (0, 0)) ∧ Wq.ownsRow hi 89 2 v pre.length (flatP pre) ∧ Outside (fun k => k = R ∨ k = tB) w3 Wq
theorem PI.clos {R tB : Nat} {w3 : World} {hi : Nat} {pre : List Pr} {v : Value} {Wa Wb : World} (h : PI R tB w3 hi pre v Wa) (hR : R < w3.heap.size) (hRt : R ≠ tB) (ht : tB < w3.heap.size) (hhi : w3.heap.size ≤ hi)
    (ho : Outside (Mine w3.heap.size hi (fun k => k = tB)) Wa Wb) : PI R tB w3 hi pre v Wb := by
  obtain ⟨h1, h2, h3⟩ := h
  refine ⟨(ho.block R (Array.getElem?_eq_some_iff.1 h1).1 (fun hk => by rcases hk with hk | hk <;> omega)).trans h1, ?_, ?_⟩
  · refine ⟨h2.1, ?_⟩
    rcases h2.2 with h4 | ⟨g, cap, cur, hv, hb, hg, hr⟩
    · exact .inl h4
    · exact .inr ⟨g, cap, cur, hv, hb, (ho.block g (Array.getElem?_eq_some_iff.1 hg).1 (fun hk => by rcases hk with hk | hk <;> omega)).trans hg, hr⟩
  · exact ⟨ho.os.trans h3.os, ho.tape.trans h3.tape, ho.output.trans h3.output, Nat.le_trans h3.size ho.size, fun k hk hn => (ho.block k (Nat.lt_of_lt_of_le hk h3.size) (fun hm => by
      rcases hm with hm | hm
      · omega
      · exact hn (.inr hm))).trans (h3.block k hk hn)⟩
theorem PI.rd {R tB : Nat} {w3 : World} {hi : Nat} {pre : List Pr} {v : Value} {Wq : World} (h : PI R tB w3 hi pre v Wq) (hR : R < hi) : RdAt Wq R Wq.heap.size pre := by
  obtain ⟨h1, h2, _⟩ := h
  refine ⟨v, h1, ?_⟩
  have hc := h2
  rcases id h2.2 with ⟨rfl, h0⟩ | ⟨g, cap, cur, rfl, hb, hg, hcp, _⟩
  · have : pre = [] := List.length_eq_zero_iff.1 h0
    subst this
    exact ⟨none, 0, rfl, by simp, fun h => absurd rfl h⟩
  · refine ⟨some ⟨g, 0, none⟩, cap, rfl, hcp, fun _ => ⟨g, 0, rfl, by omega, (Array.getElem?_eq_some_iff.1 hg).1, fun j x hj => ?_⟩⟩
    obtain ⟨q1, q2⟩ := flatP_get pre j x hj
    exact ⟨by rw [Nat.zero_add]; exact (own_cell hc q1).1, by rw [Nat.zero_add]; exact (own_cell hc q2).1⟩
def zeroC : Chg := ⟨[], [], [], 0, [], [], [], [], false, false⟩
def ParsePost (text : List UInt8) (w : World) (e : Ending) (w' : World) : Prop :=
  Below w.heap.size w w' ∧ match parseC text with
  | some c => ∃ vA vM, e = .returned (.tuple #[.agg (chgA c vA vM), .int .i64 0]) ∧ RecO w.heap.size w' vA vM c
  | none => e = .returned (.tuple #[.agg (chgA zeroC (.slice none 0 0) (.slice none 0 0)), .int .i64 (if 65536 < text.length then 2 else 110)])
theorem Parse_long (text : List UInt8) (w : World) (hl : 65536 < text.length) (hl2 : text.length ≤ 1000000000000) :
    Calls Tryz.prog 7 #[.string ⟨text.toArray⟩] w (ParsePost text w) := by
  obtain ⟨PR, hPR⟩ : ∃ P, ParsePost text w = P := ⟨_, rfl⟩
  rw [hPR]
  have HPR := Lib.hid hPR
  clear hPR
  have g1 : decide ((65536 : Int) < (text.length : Int)) = true := decide_eq_true (by omega)
  have hk : (w.alloc (.cells #[.string ⟨#[]⟩, .string ⟨#[]⟩, .string ⟨#[]⟩, .int .i64 0, .slice none 0 0, .slice none 0 0, .string ⟨#[]⟩, .string ⟨#[]⟩, .bool false, .bool false] 47)).heap[w.heap.size]? = some (.cells #[.string ⟨#[]⟩, .string ⟨#[]⟩, .string ⟨#[]⟩, .int .i64 0, .slice none 0 0, .slice none 0 0, .string ⟨#[]⟩, .string ⟨#[]⟩, .bool false, .bool false] 47 (0, 0)) := alloc_at _ _ _ rfl
  have hb : Below w.heap.size w (w.alloc (.cells #[.string ⟨#[]⟩, .string ⟨#[]⟩, .string ⟨#[]⟩, .int .i64 0, .slice none 0 0, .slice none 0 0, .string ⟨#[]⟩, .string ⟨#[]⟩, .bool false, .bool false] 47)) := (Below.refl _ _).alloc (Nat.le_refl _) _
  obtain ⟨⟨n0, n1, n2, n3, n4, n5, n6, n7, n8, n9⟩, z0, z1, z2, z3, z4, z5, z6, z7, z8, z9⟩ := ten_cells hk
  refine (callsIn_wide (n := 3)).1 ?_
  refine callsIn_of_wp_marks Tryz.func7 rfl trivial ?_ rfl
  simp only [Tryz.ntmps7, List.size_toArray, List.length_cons, List.length_nil, Nat.reduceAdd, Nat.reduceSub, Array.replicate_succ, Array.replicate_zero, List.push_toArray, List.append_toArray, List.nil_append, List.cons_append]
  gi_wp2
  refine ⟨.tuple #[.agg (chgA zeroC (.slice none 0 0) (.slice none 0 0)), .int .i64 2], by simp [results, Tryz.results7, go_sem, n0, n1, n2, n3, n4, n5, n6, n7, n8, n9, chgA, zeroC], ?_⟩
  rw [← HPR.out]
  have hp : parseC text = none := by unfold parseC; rw [if_pos hl]
  unfold ParsePost
  rw [hp, if_pos hl]
  exact ⟨hb, rfl⟩
theorem pairs_ln (text : List UInt8) (hl : text.length ≤ 1000000000) : ∀ p ∈ (cutL text).map pairB, Ln p := by
  intro p hp
  obtain ⟨x, hx, rfl⟩ := List.mem_map.1 hp
  have h1 := cutL_le text x hx
  obtain ⟨a, b, c, hcut⟩ : ∃ a b c, cut x [58] = (a, b, c) := ⟨_, _, _, rfl⟩
  have h2 := cut_le x hcut
  have h3 : a.length ≤ x.length := by
    unfold cut at hcut
    split at hcut
    · simp only [Prod.mk.injEq] at hcut
      rw [← hcut.1]; exact List.length_take_le' _ _
    · simp only [Prod.mk.injEq] at hcut
      rw [← hcut.1]; exact Nat.le_refl _
  have h4 : ((pairV b).getD []).length ≤ b.length := by
    have t1 := trimPrefix_le (trimPrefix b [58]) [32]
    have t2 := trimPrefix_le b [58]
    unfold pairV
    split
    · cases hu : unb (trimPrefix (trimPrefix b [58]) [32]) with
      | none => simp
      | some d =>
        have := (unb_some _ _).1 hu
        have h5 := b64_length d.length d (Nat.le_refl _)
        rw [this] at h5
        simp only [Option.getD_some]
        omega
    · simp only [Option.getD_some]
      omega
  unfold Ln pairB
  rw [hcut]
  constructor
  · simp only
    split
    · simp
    · omega
  · simp only
    omega
theorem cutL_len : ∀ s : List UInt8, (cutL s).length ≤ s.length + 1
  | [] => by simp [cutL]
  | c :: t => by
    have := cutL_len t
    simp only [cutL]
    split
    · simp; omega
    · split
      · simp
      · rename_i hq
        rw [hq] at this
        simp at this ⊢
        omega
theorem put10_at {w : World} {N : Nat} {y0 y1 y2 y3 y4 y5 y6 y7 y8 y9 x0 x1 x2 x3 x4 x5 x6 x7 x8 x9 : Value} {t : TypeId} (h : w.heap[N]? = some (.cells #[y0, y1, y2, y3, y4, y5, y6, y7, y8, y9] t (0, 0))) :
    (put10 w N x0 x1 x2 x3 x4 x5 x6 x7 x8 x9).heap[N]? = some (.cells #[x0, x1, x2, x3, x4, x5, x6, x7, x8, x9] t (0, 0)) :=
  by
  have h0 : (w.setCell ⟨N, 0, none⟩ x0).heap[N]? = some (.cells #[x0, y1, y2, y3, y4, y5, y6, y7, y8, y9] t (0, 0)) := setCell_at h
  have h1 : ((w.setCell ⟨N, 0, none⟩ x0).setCell ⟨N, 1, none⟩ x1).heap[N]? = some (.cells #[x0, x1, y2, y3, y4, y5, y6, y7, y8, y9] t (0, 0)) := setCell_at h0
  unfold put10
  generalize (w.setCell ⟨N, 0, none⟩ x0).setCell ⟨N, 1, none⟩ x1 = w1 at h1 ⊢
  have h2 : (w1.setCell ⟨N, 2, none⟩ x2).heap[N]? = some (.cells #[x0, x1, x2, y3, y4, y5, y6, y7, y8, y9] t (0, 0)) := setCell_at h1
  generalize w1.setCell ⟨N, 2, none⟩ x2 = w2 at h2 ⊢
  have h3 : (w2.setCell ⟨N, 3, none⟩ x3).heap[N]? = some (.cells #[x0, x1, x2, x3, y4, y5, y6, y7, y8, y9] t (0, 0)) := setCell_at h2
  generalize w2.setCell ⟨N, 3, none⟩ x3 = w3 at h3 ⊢
  have h4 : (w3.setCell ⟨N, 4, none⟩ x4).heap[N]? = some (.cells #[x0, x1, x2, x3, x4, y5, y6, y7, y8, y9] t (0, 0)) := setCell_at h3
  generalize w3.setCell ⟨N, 4, none⟩ x4 = w4 at h4 ⊢
  have h5 : (w4.setCell ⟨N, 5, none⟩ x5).heap[N]? = some (.cells #[x0, x1, x2, x3, x4, x5, y6, y7, y8, y9] t (0, 0)) := setCell_at h4
  generalize w4.setCell ⟨N, 5, none⟩ x5 = w5 at h5 ⊢
  have h6 : (w5.setCell ⟨N, 6, none⟩ x6).heap[N]? = some (.cells #[x0, x1, x2, x3, x4, x5, x6, y7, y8, y9] t (0, 0)) := setCell_at h5
  generalize w5.setCell ⟨N, 6, none⟩ x6 = w6 at h6 ⊢
  have h7 : (w6.setCell ⟨N, 7, none⟩ x7).heap[N]? = some (.cells #[x0, x1, x2, x3, x4, x5, x6, x7, y8, y9] t (0, 0)) := setCell_at h6
  generalize w6.setCell ⟨N, 7, none⟩ x7 = w7 at h7 ⊢
  have h8 : (w7.setCell ⟨N, 8, none⟩ x8).heap[N]? = some (.cells #[x0, x1, x2, x3, x4, x5, x6, x7, x8, y9] t (0, 0)) := setCell_at h7
  generalize w7.setCell ⟨N, 8, none⟩ x8 = w8 at h8 ⊢
  exact setCell_at h8
theorem Parse_short (text : List UInt8) (w : World) (hl : ¬ 65536 < text.length) (hE : Env w) (hS : Small (recordR ((cutL text).map pairB))) :
    Calls Tryz.prog 7 #[.string ⟨text.toArray⟩] w (ParsePost text w) := by
  obtain ⟨PR, hPR⟩ : ∃ P, ParsePost text w = P := ⟨_, rfl⟩
  rw [hPR]
  have HPR := Lib.hid hPR
  clear hPR
  have g1 : decide ((65536 : Int) < (text.length : Int)) = false := decide_eq_false (by omega)
  obtain ⟨mx, hmx⟩ := hE.maxl
  have hml : 0 < w.heap.size := lt_of_cell hmx
  refine (callsIn_wide (n := 3)).1 ?_
  refine callsIn_of_wp_marks Tryz.func7 rfl trivial ?_ rfl
  simp only [Tryz.ntmps7, List.size_toArray, List.length_cons, List.length_nil, Nat.reduceAdd, Nat.reduceSub, Array.replicate_succ, Array.replicate_zero, List.push_toArray, List.append_toArray, List.nil_append, List.cons_append]
  gi_wp2
  refine ⟨trivial, ?_⟩
  refine (callsIn_wide.2 (lines_any text _)).mono ?_
  rintro e W3 ⟨rfl, hW3⟩
  gi_wp2
  rw [← hW3]
  have hb3 : Below w.heap.size w W3 := by
    rw [hW3]
    exact ((((Below.refl _ _).alloc (Nat.le_refl _) _).alloc (by simp) _).alloc (by simp; omega) _).alloc (by simp; omega) _
  have hz3 : W3.heap.size = w.heap.size + 4 := by rw [hW3]; simp
  have hN3 : W3.heap[w.heap.size]? = some (.cells #[.string ⟨#[]⟩, .string ⟨#[]⟩, .string ⟨#[]⟩, .int .i64 0, .slice none 0 0, .slice none 0 0, .string ⟨#[]⟩, .string ⟨#[]⟩, .bool false, .bool false] 47 (0, 0)) := by
    rw [hW3, Lib.alloc_old _ _ _ (by simp; omega), Lib.alloc_old _ _ _ (by simp; omega), Lib.alloc_old _ _ _ (by simp)]
    exact alloc_at _ _ _ rfl
  have hR3 : W3.heap[w.heap.size + 1]? = some (.cells #[.slice none 0 0] 84 (0, 0)) := by
    rw [hW3, Lib.alloc_old _ _ _ (by simp), Lib.alloc_old _ _ _ (by simp)]
    exact alloc_at _ _ _ (by simp)
  have hP3 : W3.heap[w.heap.size + 1 + 1]? = some (.cells #[.pointer (some ⟨w.heap.size + 1, 0, none⟩)] 81 (0, 0)) := by
    rw [hW3, Lib.alloc_old _ _ _ (by simp)]
    exact alloc_at _ _ _ (by simp)
  have hT3 : W3.heap[w.heap.size + 1 + 1 + 1]? = some (.cells #[.string ⟨text.toArray⟩] 9 (0, 0)) := by
    rw [hW3]
    exact alloc_at _ _ _ (by simp)
  have hmx3 : W3.cell? ⟨0, 0, none⟩ = some (.int .i64 mx) := (hb3.cell (lt_of_cell hmx)).trans hmx
  have HW3 := Lib.hid hW3
  clear hW3
  refine range_gives (by omega) (gf := 138) rfl (enters_of Tryz.func138 (by kernel_rfl) rfl)
    (lines_gives (w.heap.size + 1 + 1 + 1) text mx W3 hT3 (by omega) hmx3) (Below.refl _ _)
    (fun k hk => by omega) (fun k hk => by unfold gMax at hk; omega) (fun _ => rfl)
    (fun hi pre Wq => ∃ v, PI (w.heap.size + 1) (w.heap.size + 1 + 1 + 1) W3 hi pre v Wq)
    ?init ?clos
    (fun hi pre x a' Wq => ∃ X v, a' = { tmps := #[Value.string ⟨text.toArray⟩, undef, Value.pointer (some ⟨w.heap.size, 0, none⟩), Value.int IntKind.i64 0, Value.pointer (some ⟨w.heap.size + 1 + 1, 0, none⟩), Value.pointer (some ⟨X, 0, none⟩), undef, undef, undef, Value.string ⟨text.toArray⟩, Value.int IntKind.i64 (text.length : Int), Value.bool false, undef, Value.agg #[Value.slice none 0 0], Value.pointer (some ⟨w.heap.size + 1, 0, none⟩), Value.string ⟨text.toArray⟩, Value.func (Fn.func 138) #[] #[Value.pointer (some ⟨w.heap.size + 1 + 1 + 1, 0, none⟩)], Value.agg #[Value.string ⟨x.1.toArray⟩, Value.string ⟨x.2.toArray⟩], undef, undef, undef, undef, undef, undef, undef, undef, undef, undef, undef, undef, undef, undef, undef, undef, undef, undef, undef, undef, undef, undef, undef, undef, undef, undef], defers := [] } ∧ PI (w.heap.size + 1) (w.heap.size + 1 + 1 + 1) W3 hi pre v Wq ∧ hi ≤ X ∧ Wq.heap[X]? = some (.cells #[.string ⟨x.1.toArray⟩, .string ⟨x.2.toArray⟩] 89 (0, 0)) ∧ v.ownBlock ≠ some X)
    ?aclos ?assign ?body ?done
  case init =>
    intro hi W' h1 h2 hb
    exact ⟨.slice none 0 0, (hb.block _ (by omega)).trans hR3, World.ownsRow_nil _ _ _ _, Outside.of_below hb⟩
  case clos =>
    rintro hi pre Wa Wb h1 ⟨v, hp⟩ ho
    exact ⟨v, hp.clos (by omega) (by omega) (by omega) (by omega) ho⟩
  case aclos =>
    rintro hi pre x a' Wa Wb h1 ⟨X, v, rfl, hp, hX, hXb, hXo⟩ ho
    exact ⟨X, v, rfl, hp.clos (by omega) (by omega) (by omega) (by omega) ho, hX, (ho.block X (Array.getElem?_eq_some_iff.1 hXb).1 (fun hk => by rcases hk with hk | hk <;> omega)).trans hXb, hXo⟩
  case assign =>
    rintro m hi pre x Wq K h1 h2 h3 ⟨v, hp⟩ hK
    gi_wp2
    have hba : Below Wq.heap.size Wq (Wq.alloc (.cells #[.string ⟨x.1.toArray⟩, .string ⟨x.2.toArray⟩] 89)) := (Below.refl _ _).alloc (Nat.le_refl _) _
    refine hK _ _ ⟨Wq.heap.size, v, rfl, hp.clos (by omega) (by omega) (by omega) (by omega) (Outside.of_below hba), h2, alloc_at _ _ _ rfl, fun e => ?_⟩ hba.size (fun k hk => hba.block k ?_)
    · have := (hp.2.1.lt _ e).2
      omega
    · rcases hk with (hk | hk) | hk
      · omega
      · omega
      · unfold gMax at hk; omega
  case body =>
    rintro m hi pre x a' Wq h1 h2 h3 ⟨X, v, rfl, hp, hX, hXb, hXo⟩
    obtain ⟨hpR, hpo, hpO⟩ := hp
    have hpp := (hpO.block (w.heap.size + 1 + 1) (by omega) (by omega)).trans hP3
    have s0 : Wq.cell? ⟨w.heap.size + 1 + 1, 0, none⟩ = some (.pointer (some ⟨w.heap.size + 1, 0, none⟩)) := by rw [Lib.cell_of_heap hpp]; rfl
    have s1 : Wq.cell? ⟨X, 0, none⟩ = some (.string ⟨x.1.toArray⟩) := by rw [Lib.cell_of_heap hXb]; rfl
    have s2 : Wq.cell? ⟨X, 1, none⟩ = some (.string ⟨x.2.toArray⟩) := by rw [Lib.cell_of_heap hXb]; rfl
    have s3 : Wq.cell? ⟨w.heap.size + 1, 0, none⟩ = some v := by rw [Lib.cell_of_heap hpR]; rfl
    have hprel : pre.length + 1 ≤ 65537 := by
      have h5 := h3.length_le
      have h6 := cutL_len text
      simp at h5
      omega
    obtain ⟨i0, hi0, hz0, hz1, hz2⟩ := info_parts Tryz.infoPair
    have hpoD : Wq.drew.ownsRow hi 89 2 v pre.length (flatP pre) := hpo
    have hXlt : X < Wq.heap.size := (Array.getElem?_eq_some_iff.1 hXb).1
    have hol := hpo.lt
    obtain ⟨av, cv, hvf⟩ := own_form hpo
    have hba : Below Wq.heap.size Wq (Wq.drew.alloc (.cells #[.string ⟨x.1.toArray⟩, .string ⟨x.2.toArray⟩] 89)) := (Below.drew (Below.refl _ _)).alloc (Nat.le_refl _) _
    have t0 : (Wq.drew.alloc (.cells #[.string ⟨x.1.toArray⟩, .string ⟨x.2.toArray⟩] 89)).cell? ⟨w.heap.size + 1 + 1, 0, none⟩ = some (.pointer (some ⟨w.heap.size + 1, 0, none⟩)) := (hba.cell (p := ⟨w.heap.size + 1 + 1, 0, none⟩) (by show w.heap.size + 1 + 1 < _; omega)).trans s0
    have t1 : (Wq.drew.alloc (.cells #[.string ⟨x.1.toArray⟩, .string ⟨x.2.toArray⟩] 89)).cell? ⟨X, 0, none⟩ = some (.string ⟨x.1.toArray⟩) := (hba.cell (p := ⟨X, 0, none⟩) hXlt).trans s1
    have t2 : (Wq.drew.alloc (.cells #[.string ⟨x.1.toArray⟩, .string ⟨x.2.toArray⟩] 89)).cell? ⟨X, 1, none⟩ = some (.string ⟨x.2.toArray⟩) := (hba.cell (p := ⟨X, 1, none⟩) hXlt).trans s2
    have t3 : (Wq.drew.alloc (.cells #[.string ⟨x.1.toArray⟩, .string ⟨x.2.toArray⟩] 89)).cell? ⟨w.heap.size + 1, 0, none⟩ = some v := (hba.cell (p := ⟨w.heap.size + 1, 0, none⟩) (by show w.heap.size + 1 < _; omega)).trans s3
    have t3' : (Wq.alloc (.cells #[.string ⟨x.1.toArray⟩, .string ⟨x.2.toArray⟩] 89)).cell? ⟨w.heap.size + 1, 0, none⟩ = some v := t3
    have HHI := Lib.hid hvf
    clear hvf
    gi_wp2
    refine region_inH (S := fun w' => w'.cell? ⟨w.heap.size + 1 + 1, 0, none⟩ = some (.pointer (some ⟨w.heap.size + 1, 0, none⟩)) ∧ w'.cell? ⟨X, 0, none⟩ = some (.string ⟨x.1.toArray⟩) ∧ w'.cell? ⟨X, 1, none⟩ = some (.string ⟨x.2.toArray⟩)) (by kernel_rfl) (by rfl) (fun ⟨_, _, h⟩ => h) ?_
    refine anyH_take 0 (.pointer (some ⟨w.heap.size + 1, 0, none⟩)) rfl (by kernel_rfl) (by kernel_rfl) (by kernel_rfl) (fun _ _ _ h => h) (by rfl) (fun w' hS => by obtain ⟨q0, q1, q2⟩ := hS; go_simp) ⟨s0, s1, s2⟩ (fun K hK => ?_); go_simp; refine hK _ _ ?_; clear hK K
    refine anyH_take 1 (.pointer (some ⟨w.heap.size + 1, 0, none⟩)) rfl (by kernel_rfl) (by kernel_rfl) (by kernel_rfl) (fun _ _ _ h => h) (by rfl) (fun w' hS => by obtain ⟨q0, q1, q2⟩ := hS; go_simp) ⟨s0, s1, s2⟩ (fun K hK => ?_); go_simp; refine hK _ _ ?_; clear hK K
    refine anyH_take 2 (.pointer (some ⟨w.heap.size + 1, 0, none⟩)) rfl (by kernel_rfl) (by kernel_rfl) (by kernel_rfl) (fun _ _ _ h => h) (by rfl) (fun w' _ => by go_simp) ⟨s0, s1, s2⟩ (fun K hK => ?_); go_simp; refine hK _ _ ?_; clear hK K
    refine anyH_take 3 (.pointer (some ⟨w.heap.size + 1, 0, none⟩)) rfl (by kernel_rfl) (by kernel_rfl) (by kernel_rfl) (fun _ _ _ h => h) (by rfl) (fun w' _ => by go_simp) ⟨s0, s1, s2⟩ (fun K hK => ?_); go_simp; refine hK _ _ ?_; clear hK K
    refine anyH_take 5 (.agg #[.string ⟨x.1.toArray⟩, .string ⟨x.2.toArray⟩]) rfl (by kernel_rfl) (by kernel_rfl) (by kernel_rfl) (fun _ _ _ h => h) (by rfl) (fun w' hS => by obtain ⟨q0, q1, q2⟩ := hS; go_simp) ⟨s0, s1, s2⟩ (fun K hK => ?_); go_simp; refine hK _ _ ?_; clear hK K
    refine anyH_two 4 6 (by kernel_rfl) rfl (by rfl) rfl (by rfl) (fun K hK => ?_) (fun K hK => ?_)
    · go_simp; refine hK _ _ ⟨s0, s1, s2⟩ ?_; clear hK K
      refine anyH_one 6 (by kernel_rfl) rfl (by rfl) (fun K hK => ?_); go_simp; refine hK _ _ ⟨t0, t1, t2⟩ ?_; clear hK K
      refine anyH_one 7 (by kernel_rfl) rfl (by rfl) (fun K hK => ?_)
      refine wp_append_lies _ _ _ _ (by rfl) hi 89 i0 _ 2 32 Tryz.underlying82 hi0 hz0 hz1 hz2 rfl (by omega) v pre.length (flatP pre) (by rfl) (hpoD.alloc _) ⟨Wq.heap.size, 0, none⟩ 1 1 [.string ⟨x.1.toArray⟩, .string ⟨x.2.toArray⟩] (by rfl) (by rfl) (World.news_of_block (alloc_at _ _ _ rfl)) (by intro y hy; simp at hy; rcases hy with rfl | rfl <;> rfl) (by omega) (by unfold maxLen; omega) (by omega) (by simp; omega) (Wq.heap.size + 1) (by simp) ?_
      intro g5 cap5 w5 ho5 hg5 hat5 hlt5
      have hkeep : ∀ k, k < Wq.heap.size → v.ownBlock ≠ some k → w5.heap[k]? = Wq.heap[k]? := fun k hk hne => (hg5.block k (by simp; omega) (fun e => hne e.symm)).trans (hba.block k hk)
      have hR5 := (hkeep (w.heap.size + 1) (by omega) (fun e => by have := (hol _ e).1; omega)).trans hpR
      have hp5 := (hkeep (w.heap.size + 1 + 1) (by omega) (fun e => by have := (hol _ e).1; omega)).trans hpp
      have hX5 := (hkeep X hXlt hXo).trans hXb
      have v0 : w5.cell? ⟨w.heap.size + 1 + 1, 0, none⟩ = some (.pointer (some ⟨w.heap.size + 1, 0, none⟩)) := by rw [Lib.cell_of_heap hp5]; rfl
      have v1 : w5.cell? ⟨X, 0, none⟩ = some (.string ⟨x.1.toArray⟩) := by rw [Lib.cell_of_heap hX5]; rfl
      have v2 : w5.cell? ⟨X, 1, none⟩ = some (.string ⟨x.2.toArray⟩) := by rw [Lib.cell_of_heap hX5]; rfl
      have v3 : w5.cell? ⟨w.heap.size + 1, 0, none⟩ = some v := by rw [Lib.cell_of_heap hR5]; rfl
      have v4 : w5.frozen? ⟨w.heap.size + 1, 0, none⟩ = false := Lib.frozen_of_heap hR5 0
      have hXR : X ≠ w.heap.size + 1 := by omega
      have hs6 := fun k (hk : k ≠ w.heap.size + 1) => Below.heap_setCell w5 ⟨w.heap.size + 1, 0, none⟩ (.slice (some ⟨g5, 0, none⟩) (pre.length + 1) cap5) k hk
      have x0 : (w5.setCell ⟨w.heap.size + 1, 0, none⟩ (.slice (some ⟨g5, 0, none⟩) (pre.length + 1) cap5)).cell? ⟨w.heap.size + 1 + 1, 0, none⟩ = some (.pointer (some ⟨w.heap.size + 1, 0, none⟩)) := by rw [Lib.cell_of_heap ((hs6 _ (by omega)).trans hp5)]; rfl
      have x1 : (w5.setCell ⟨w.heap.size + 1, 0, none⟩ (.slice (some ⟨g5, 0, none⟩) (pre.length + 1) cap5)).cell? ⟨X, 0, none⟩ = some (.string ⟨x.1.toArray⟩) := by rw [Lib.cell_of_heap ((hs6 _ hXR).trans hX5)]; rfl
      have x2 : (w5.setCell ⟨w.heap.size + 1, 0, none⟩ (.slice (some ⟨g5, 0, none⟩) (pre.length + 1) cap5)).cell? ⟨X, 1, none⟩ = some (.string ⟨x.2.toArray⟩) := by rw [Lib.cell_of_heap ((hs6 _ hXR).trans hX5)]; rfl
      go_simp; refine hK _ _ ⟨v0, v1, v2⟩ ?_; clear hK K
      refine anyH_one 8 (by kernel_rfl) rfl (by rfl) (fun K hK => ?_); go_simp; refine hK _ _ ⟨v0, v1, v2⟩ ?_; clear hK K
      refine anyH_one 9 (by kernel_rfl) rfl (by rfl) (fun K hK => ?_); go_simp; refine hK _ _ ⟨v0, v1, v2⟩ ?_; clear hK K
      refine anyH_one 10 (by kernel_rfl) rfl (by rfl) (fun K hK => ?_); go_simp; refine hK _ _ ⟨x0, x1, x2⟩ ?_; clear hK K
      refine wpAnyH_done (by kernel_rfl) ?_ _
      have hk6 : ∀ k, k < hi → k ≠ w.heap.size + 1 → (w5.setCell ⟨w.heap.size + 1, 0, none⟩ (.slice (some ⟨g5, 0, none⟩) (pre.length + 1) cap5)).heap[k]? = Wq.heap[k]? := fun k hk hkR => (hs6 k hkR).trans (hkeep k (by omega) (fun e => by have := (hol _ e).1; omega))
      have hsz6 : Wq.heap.size ≤ (w5.setCell ⟨w.heap.size + 1, 0, none⟩ (.slice (some ⟨g5, 0, none⟩) (pre.length + 1) cap5)).heap.size := by have := hg5.size; simp at this ⊢; omega
      refine ⟨⟨_, setCell_one hR5, ?_, ?_⟩, hsz6, fun k hk => hk6 k ?_ ?_⟩
      · rw [flatP_snoc, List.length_append]
        exact ho5.kept (grown_set _ _ _ _) (.inr (fun e => by have := (ho5.lt _ e).1; omega))
      · exact ⟨hg5.os.trans hpO.os, hg5.tape.trans hpO.tape, hg5.output.trans hpO.output, Nat.le_trans hpO.size hsz6, fun k hk hn => (hk6 k (by omega) (fun e => hn (.inl e))).trans (hpO.block k hk hn)⟩
      · rcases hk with (hk | hk) | hk
        · omega
        · omega
        · unfold gMax at hk; omega
      · rcases hk with (hk | hk) | hk
        · omega
        · omega
        · unfold gMax at hk; omega
    · go_simp; refine hK _ _ ⟨t0, t1, t2⟩ ?_; clear hK K
      refine anyH_one 4 (by kernel_rfl) rfl (by rfl) (fun K hK => ?_); go_simp; refine hK _ _ ⟨t0, t1, t2⟩ ?_; clear hK K
      refine anyH_one 7 (by kernel_rfl) rfl (by rfl) (fun K hK => ?_)
      refine wp_append_lies _ _ _ _ (by rfl) hi 89 i0 _ 2 32 Tryz.underlying82 hi0 hz0 hz1 hz2 rfl (by omega) v pre.length (flatP pre) (by rfl) (hpoD.alloc _) ⟨Wq.heap.size, 0, none⟩ 1 1 [.string ⟨x.1.toArray⟩, .string ⟨x.2.toArray⟩] (by rfl) (by rfl) (World.news_of_block (alloc_at _ _ _ rfl)) (by intro y hy; simp at hy; rcases hy with rfl | rfl <;> rfl) (by omega) (by unfold maxLen; omega) (by omega) (by simp; omega) (Wq.heap.size + 1) (by simp) ?_
      intro g5 cap5 w5 ho5 hg5 hat5 hlt5
      have hkeep : ∀ k, k < Wq.heap.size → v.ownBlock ≠ some k → w5.heap[k]? = Wq.heap[k]? := fun k hk hne => (hg5.block k (by simp; omega) (fun e => hne e.symm)).trans (hba.block k hk)
      have hR5 := (hkeep (w.heap.size + 1) (by omega) (fun e => by have := (hol _ e).1; omega)).trans hpR
      have hp5 := (hkeep (w.heap.size + 1 + 1) (by omega) (fun e => by have := (hol _ e).1; omega)).trans hpp
      have hX5 := (hkeep X hXlt hXo).trans hXb
      have v0 : w5.cell? ⟨w.heap.size + 1 + 1, 0, none⟩ = some (.pointer (some ⟨w.heap.size + 1, 0, none⟩)) := by rw [Lib.cell_of_heap hp5]; rfl
      have v1 : w5.cell? ⟨X, 0, none⟩ = some (.string ⟨x.1.toArray⟩) := by rw [Lib.cell_of_heap hX5]; rfl
      have v2 : w5.cell? ⟨X, 1, none⟩ = some (.string ⟨x.2.toArray⟩) := by rw [Lib.cell_of_heap hX5]; rfl
      have v3 : w5.cell? ⟨w.heap.size + 1, 0, none⟩ = some v := by rw [Lib.cell_of_heap hR5]; rfl
      have v4 : w5.frozen? ⟨w.heap.size + 1, 0, none⟩ = false := Lib.frozen_of_heap hR5 0
      have hXR : X ≠ w.heap.size + 1 := by omega
      have hs6 := fun k (hk : k ≠ w.heap.size + 1) => Below.heap_setCell w5 ⟨w.heap.size + 1, 0, none⟩ (.slice (some ⟨g5, 0, none⟩) (pre.length + 1) cap5) k hk
      have x0 : (w5.setCell ⟨w.heap.size + 1, 0, none⟩ (.slice (some ⟨g5, 0, none⟩) (pre.length + 1) cap5)).cell? ⟨w.heap.size + 1 + 1, 0, none⟩ = some (.pointer (some ⟨w.heap.size + 1, 0, none⟩)) := by rw [Lib.cell_of_heap ((hs6 _ (by omega)).trans hp5)]; rfl
      have x1 : (w5.setCell ⟨w.heap.size + 1, 0, none⟩ (.slice (some ⟨g5, 0, none⟩) (pre.length + 1) cap5)).cell? ⟨X, 0, none⟩ = some (.string ⟨x.1.toArray⟩) := by rw [Lib.cell_of_heap ((hs6 _ hXR).trans hX5)]; rfl
      have x2 : (w5.setCell ⟨w.heap.size + 1, 0, none⟩ (.slice (some ⟨g5, 0, none⟩) (pre.length + 1) cap5)).cell? ⟨X, 1, none⟩ = some (.string ⟨x.2.toArray⟩) := by rw [Lib.cell_of_heap ((hs6 _ hXR).trans hX5)]; rfl
      go_simp; refine hK _ _ ⟨v0, v1, v2⟩ ?_; clear hK K
      refine anyH_one 8 (by kernel_rfl) rfl (by rfl) (fun K hK => ?_); go_simp; refine hK _ _ ⟨v0, v1, v2⟩ ?_; clear hK K
      refine anyH_one 9 (by kernel_rfl) rfl (by rfl) (fun K hK => ?_); go_simp; refine hK _ _ ⟨v0, v1, v2⟩ ?_; clear hK K
      refine anyH_one 10 (by kernel_rfl) rfl (by rfl) (fun K hK => ?_); go_simp; refine hK _ _ ⟨x0, x1, x2⟩ ?_; clear hK K
      refine wpAnyH_done (by kernel_rfl) ?_ _
      have hk6 : ∀ k, k < hi → k ≠ w.heap.size + 1 → (w5.setCell ⟨w.heap.size + 1, 0, none⟩ (.slice (some ⟨g5, 0, none⟩) (pre.length + 1) cap5)).heap[k]? = Wq.heap[k]? := fun k hk hkR => (hs6 k hkR).trans (hkeep k (by omega) (fun e => by have := (hol _ e).1; omega))
      have hsz6 : Wq.heap.size ≤ (w5.setCell ⟨w.heap.size + 1, 0, none⟩ (.slice (some ⟨g5, 0, none⟩) (pre.length + 1) cap5)).heap.size := by have := hg5.size; simp at this ⊢; omega
      refine ⟨⟨_, setCell_one hR5, ?_, ?_⟩, hsz6, fun k hk => hk6 k ?_ ?_⟩
      · rw [flatP_snoc, List.length_append]
        exact ho5.kept (grown_set _ _ _ _) (.inr (fun e => by have := (ho5.lt _ e).1; omega))
      · exact ⟨hg5.os.trans hpO.os, hg5.tape.trans hpO.tape, hg5.output.trans hpO.output, Nat.le_trans hpO.size hsz6, fun k hk hn => (hk6 k (by omega) (fun e => hn (.inl e))).trans (hpO.block k hk hn)⟩
      · rcases hk with (hk | hk) | hk
        · omega
        · omega
        · unfold gMax at hk; omega
      · rcases hk with (hk | hk) | hk
        · omega
        · omega
        · unfold gMax at hk; omega
  case done =>
    rintro hi W4 h1 ⟨v, hp⟩ hD
    have hO := hp.2.2
    have hrd := hp.rd (by omega)
    have hN4 := (hO.block w.heap.size (by omega) (by omega)).trans hN3
    have hP4 := (hO.block (w.heap.size + 1 + 1) (by omega) (by omega)).trans hP3
    have hs4 := hO.size
    have hb4 : Below w.heap.size w W4 := hb3.trans ⟨hO.os, hO.tape, hO.output, hO.size, fun k hk => hO.block k (by omega) (by omega)⟩
    have s0 : W4.cell? ⟨w.heap.size + 1 + 1, 0, none⟩ = some (.pointer (some ⟨w.heap.size + 1, 0, none⟩)) := by rw [Lib.cell_of_heap hP4]; rfl
    have hlen := cutL_len text
    have hln := pairs_ln text (by omega)
    obtain ⟨l, hl0⟩ : ∃ l, (cutL text).map pairB = l := ⟨_, rfl⟩
    have hll : l.length ≤ 1000000000 := by rw [← hl0, List.length_map]; omega
    have hpc : parseC text = if printC (recordR l) = (text, 0) then some (recordR l) else none := by
      unfold parseC
      rw [if_neg hl, hl0]
    rw [hl0] at hln hrd hS
    have HPC := Lib.hid hpc
    have HSM := Lib.hid hS
    have kr := record_any (w.heap.size + 1) W4.heap.size l W4 hrd (Nat.le_refl _) hln hll
    obtain ⟨c, hc⟩ : ∃ c, recordR l = c := ⟨_, rfl⟩
    rw [hc] at HPC HSM
    have hD4 : W4.heap[w.heap.size + 4]? = some (.deferred (some [])) := by rw [← hz3]; exact hD
    clear hl0 hpc hS hln hrd hp hD hlen
    gi_wp2
    refine ⟨trivial, ?_⟩
    refine (callsIn_wide.2 kr).mono ?_
    rintro e w5 ⟨hx5, vA, vM, rfl, hAM⟩
    rw [hc] at hAM ⊢
    obtain ⟨hA, hM⟩ := hAM.at
    have HAM := Lib.hid hAM
    clear hAM
    obtain ⟨aA, cA, rfl, _⟩ := id hA
    obtain ⟨aM, cM, rfl, _⟩ := id hM
    have hs5 := hx5.size
    have hN5 := (hx5.block w.heap.size (by omega) (by omega)).trans hN4
    have hD5 := (hx5.block (w.heap.size + 4) (Array.getElem?_eq_some_iff.1 hD4).1 (by omega)).trans hD4
    have hb5 : Below w.heap.size w w5 := hb4.trans ⟨hx5.os, hx5.tape, hx5.output, hx5.size, fun k hk => hx5.block k (by omega) (by omega)⟩
    have hb6 : Below w5.heap.size w5 (w5.alloc (.cells (chgA c (.slice aA c.attrs.length cA) (.slice aM c.mods.length cM)) 47)) := (Below.refl _ _).alloc (Nat.le_refl _) _
    have hC6 : (w5.alloc (.cells (chgA c (.slice aA c.attrs.length cA) (.slice aM c.mods.length cM)) 47)).heap[w5.heap.size]? = some (.cells (chgA c (.slice aA c.attrs.length cA) (.slice aM c.mods.length cM)) 47 (0, 0)) := alloc_at _ _ _ rfl
    have kp := Print_any c _ _ (w5.alloc (.cells (chgA c (.slice aA c.attrs.length cA) (.slice aM c.mods.length cM)) 47)) (hA.below hb6) (hM.below hb6) ((hE.below hb5).below hb6) HSM.out
    have hDl : w.heap.size + 4 < w5.heap.size := (Array.getElem?_eq_some_iff.1 hD5).1
    have hN6 := (hb6.block w.heap.size (by omega)).trans hN5
    have hD6 := (hb6.block (w.heap.size + 4) hDl).trans hD5
    have hA6 := hA.below hb6
    have hM6 := hM.below hb6
    have hb06 := hb5.trans (hb6.mono (by omega))
    have hCl : w5.heap.size < (w5.alloc (.cells (chgA c (.slice aA c.attrs.length cA) (.slice aM c.mods.length cM)) 47)).heap.size := by simp
    obtain ⟨PS, hPS⟩ : ∃ x, (printC c).1 = x := ⟨_, rfl⟩
    obtain ⟨PE, hPE⟩ : ∃ x, (printC c).2 = x := ⟨_, rfl⟩
    have hpe : printC c = (PS, PE) := by rw [← hPS, ← hPE]
    rw [hPS, hPE] at kp
    have HPE := Lib.hid hpe
    clear hc hPS hPE hpe hx5 hA hM kr
    unfold chgA at kp hC6 hN6 hD6 hA6 hM6 hb06 hCl hb6 ⊢
    gi_wp2
    refine ⟨trivial, ?_⟩
    refine (callsIn_wide.2 kp).mono ?_
    rintro e w8 ⟨rfl, hb8'⟩
    have h58 : ∀ k, k < w5.heap.size → w8.heap[k]? = w5.heap[k]? := fun k hk => (hb8'.block k (by omega)).trans (hb6.block k hk)
    have H58 := Lib.hid h58
    clear h58
    have hC8 := (hb8'.block w5.heap.size hCl).trans hC6
    have hN8 := (hb8'.block w.heap.size (by omega)).trans hN6
    have hD8 := (hb8'.block (w.heap.size + 4) (by omega)).trans hD6
    have hA8 := hA6.below hb8'
    have hM8 := hM6.below hb8'
    have hb8 : Below w.heap.size w w8 := hb06.trans (hb8'.mono (by omega))
    obtain ⟨⟨c0, c1, c2, c3, c4, c5, c6, c7, c8, c9⟩, _⟩ := ten_cells hC8
    obtain ⟨⟨m0, m1, m2, m3, m4, m5, m6, m7, m8, m9⟩, y0, y1, y2, y3, y4, y5, y6, y7, y8, y9⟩ := ten_cells hN8
    clear hC6 hN6 hD6 hA6 hM6 hb06 hb6 kp hb8' hN5 hD5 hb5
    by_cases hPE0 : PE = 0
    · subst hPE0
      by_cases hPT : PS = text
      · subst hPT
        have hsome : parseC PS = some c := by rw [HPC.out, HPE.out, if_pos rfl]
        have b1 : (PS == PS) = true := by simp
        have HSO := Lib.hid hsome
        clear hsome
        have hfin : ∃ w9, put10 w8 w.heap.size (.string ⟨c.time.toArray⟩) (.string ⟨c.who.toArray⟩) (.string ⟨c.dn.toArray⟩) (.int .i64 c.kind) (.slice aA c.attrs.length cA) (.slice aM c.mods.length cM) (.string ⟨c.newRdn.toArray⟩) (.string ⟨c.newSup.toArray⟩) (.bool c.delOld) (.bool c.hasSup) = w9 := ⟨_, rfl⟩
        obtain ⟨w9, hw9⟩ := hfin
        have h9N : w9.heap[w.heap.size]? = some (.cells #[.string ⟨c.time.toArray⟩, .string ⟨c.who.toArray⟩, .string ⟨c.dn.toArray⟩, .int .i64 c.kind, .slice aA c.attrs.length cA, .slice aM c.mods.length cM, .string ⟨c.newRdn.toArray⟩, .string ⟨c.newSup.toArray⟩, .bool c.delOld, .bool c.hasSup] 47 (0, 0)) := by rw [← hw9]; exact put10_at hN8
        have h9g : w8.grownBy w9 (some w.heap.size) := by rw [← hw9]; exact put10_grown _ _ _ _ _ _ _ _ _ _ _ _
        have h9D := (h9g.block _ (Array.getElem?_eq_some_iff.1 hD8).1 (fun e => by injection e with e; omega)).trans hD8
        have h9P := (World.putObj_heap_other (w := w9) (r := w.heap.size + 4) (o := .deferred none) (k := w.heap.size) (by omega)).trans h9N
        obtain ⟨⟨n0, n1, n2, n3, n4, n5, n6, n7, n8, n9⟩, _⟩ := ten_cells h9P
        gi_wp2
        rw [show ((((((((((w8.setCell ⟨w.heap.size, 0, none⟩ (.string ⟨c.time.toArray⟩)).setCell ⟨w.heap.size, 1, none⟩ (.string ⟨c.who.toArray⟩)).setCell ⟨w.heap.size, 2, none⟩ (.string ⟨c.dn.toArray⟩)).setCell ⟨w.heap.size, 3, none⟩ (.int .i64 c.kind)).setCell ⟨w.heap.size, 4, none⟩ (.slice aA c.attrs.length cA)).setCell ⟨w.heap.size, 5, none⟩ (.slice aM c.mods.length cM)).setCell ⟨w.heap.size, 6, none⟩ (.string ⟨c.newRdn.toArray⟩)).setCell ⟨w.heap.size, 7, none⟩ (.string ⟨c.newSup.toArray⟩)).setCell ⟨w.heap.size, 8, none⟩ (.bool c.delOld)).setCell ⟨w.heap.size, 9, none⟩ (.bool c.hasSup)) = w9 from hw9]
        refine ⟨by simp, .inl ⟨_, _, rfl, run_takeDeferred h9D, ?_⟩⟩
        refine ⟨.tuple #[.agg (chgA c (.slice aA c.attrs.length cA) (.slice aM c.mods.length cM)), .int .i64 0], by simp [results, Tryz.results7, go_sem, n0, n1, n2, n3, n4, n5, n6, n7, n8, n9, chgA], ?_⟩
        rw [← HPR.out]
        have hbf : Below w.heap.size w (w9.putObj (w.heap.size + 4) (.deferred none)) := by
          have hz8 := hb8.size
          refine hb8.trans ?_
          exact ⟨h9g.os, h9g.tape, h9g.output, by simpa using h9g.size, fun k hk => (World.putObj_heap_other (by omega)).trans (h9g.block k (by omega) (fun e => by injection e with e; omega))⟩
        unfold ParsePost
        rw [HSO.out]
        have h6' : w.heap.size + 4 < _ := (Array.getElem?_eq_some_iff.1 hD4).1
        refine ⟨hbf, _, _, rfl, (HAM.out.from (w' := w9.putObj (w.heap.size + 4) (.deferred none)) (Nat.le_refl _) (fun k h1 h2 => ?_)).mono (by omega)⟩
        have h3 : k < w8.heap.size := by
          have := (Array.getElem?_eq_some_iff.1 hC8).1
          omega
        have h4 := h9g.size
        have h6 : w.heap.size + 4 < _ := (Array.getElem?_eq_some_iff.1 hD4).1
        rw [World.putObj_heap_other (by omega), h9g.block k h3 (fun e => by injection e with e; omega), H58.out k h2]
      · have hnone : parseC text = none := by rw [HPC.out, HPE.out, if_neg (by simpa using hPT)]
        have b1 : (PS == text) = false := by simpa using hPT
        have HSO := Lib.hid hnone
        clear hnone
        have hfin : ∃ w9, put10 w8 w.heap.size (.string ⟨#[]⟩) (.string ⟨#[]⟩) (.string ⟨#[]⟩) (.int .i64 0) (.slice none 0 0) (.slice none 0 0) (.string ⟨#[]⟩) (.string ⟨#[]⟩) (.bool false) (.bool false) = w9 := ⟨_, rfl⟩
        obtain ⟨w9, hw9⟩ := hfin
        have h9N : w9.heap[w.heap.size]? = some (.cells #[.string ⟨#[]⟩, .string ⟨#[]⟩, .string ⟨#[]⟩, .int .i64 0, .slice none 0 0, .slice none 0 0, .string ⟨#[]⟩, .string ⟨#[]⟩, .bool false, .bool false] 47 (0, 0)) := by rw [← hw9]; exact put10_at hN8
        have h9g : w8.grownBy w9 (some w.heap.size) := by rw [← hw9]; exact put10_grown _ _ _ _ _ _ _ _ _ _ _ _
        have h9D := (h9g.block _ (Array.getElem?_eq_some_iff.1 hD8).1 (fun e => by injection e with e; omega)).trans hD8
        have h9P := (World.putObj_heap_other (w := w9) (r := w.heap.size + 4) (o := .deferred none) (k := w.heap.size) (by omega)).trans h9N
        obtain ⟨⟨n0, n1, n2, n3, n4, n5, n6, n7, n8, n9⟩, _⟩ := ten_cells h9P
        gi_wp2
        rw [show ((((((((((w8.setCell ⟨w.heap.size, 0, none⟩ (.string ⟨#[]⟩)).setCell ⟨w.heap.size, 1, none⟩ (.string ⟨#[]⟩)).setCell ⟨w.heap.size, 2, none⟩ (.string ⟨#[]⟩)).setCell ⟨w.heap.size, 3, none⟩ (.int .i64 0)).setCell ⟨w.heap.size, 4, none⟩ (.slice none 0 0)).setCell ⟨w.heap.size, 5, none⟩ (.slice none 0 0)).setCell ⟨w.heap.size, 6, none⟩ (.string ⟨#[]⟩)).setCell ⟨w.heap.size, 7, none⟩ (.string ⟨#[]⟩)).setCell ⟨w.heap.size, 8, none⟩ (.bool false)).setCell ⟨w.heap.size, 9, none⟩ (.bool false)) = w9 from hw9]
        refine ⟨by simp, .inl ⟨_, _, rfl, run_takeDeferred h9D, ?_⟩⟩
        refine ⟨.tuple #[.agg (chgA zeroC (.slice none 0 0) (.slice none 0 0)), .int .i64 110], by simp [results, Tryz.results7, go_sem, n0, n1, n2, n3, n4, n5, n6, n7, n8, n9, chgA, zeroC], ?_⟩
        rw [← HPR.out]
        have hbf : Below w.heap.size w (w9.putObj (w.heap.size + 4) (.deferred none)) := by
          have hz8 := hb8.size
          refine hb8.trans ?_
          exact ⟨h9g.os, h9g.tape, h9g.output, by simpa using h9g.size, fun k hk => (World.putObj_heap_other (by omega)).trans (h9g.block k (by omega) (fun e => by injection e with e; omega))⟩
        unfold ParsePost
        rw [HSO.out, if_neg hl]
        exact ⟨hbf, rfl⟩
    · have hnone : parseC text = none := by rw [HPC.out, HPE.out, if_neg (by simp [hPE0])]
      have b1 : (PE == 0) = false := by simpa using hPE0
      have HSO := Lib.hid hnone
      clear hnone
      have hfin : ∃ w9, put10 w8 w.heap.size (.string ⟨#[]⟩) (.string ⟨#[]⟩) (.string ⟨#[]⟩) (.int .i64 0) (.slice none 0 0) (.slice none 0 0) (.string ⟨#[]⟩) (.string ⟨#[]⟩) (.bool false) (.bool false) = w9 := ⟨_, rfl⟩
      obtain ⟨w9, hw9⟩ := hfin
      have h9N : w9.heap[w.heap.size]? = some (.cells #[.string ⟨#[]⟩, .string ⟨#[]⟩, .string ⟨#[]⟩, .int .i64 0, .slice none 0 0, .slice none 0 0, .string ⟨#[]⟩, .string ⟨#[]⟩, .bool false, .bool false] 47 (0, 0)) := by rw [← hw9]; exact put10_at hN8
      have h9g : w8.grownBy w9 (some w.heap.size) := by rw [← hw9]; exact put10_grown _ _ _ _ _ _ _ _ _ _ _ _
      have h9D := (h9g.block _ (Array.getElem?_eq_some_iff.1 hD8).1 (fun e => by injection e with e; omega)).trans hD8
      have h9P := (World.putObj_heap_other (w := w9) (r := w.heap.size + 4) (o := .deferred none) (k := w.heap.size) (by omega)).trans h9N
      obtain ⟨⟨n0, n1, n2, n3, n4, n5, n6, n7, n8, n9⟩, _⟩ := ten_cells h9P
      gi_wp2
      rw [show ((((((((((w8.setCell ⟨w.heap.size, 0, none⟩ (.string ⟨#[]⟩)).setCell ⟨w.heap.size, 1, none⟩ (.string ⟨#[]⟩)).setCell ⟨w.heap.size, 2, none⟩ (.string ⟨#[]⟩)).setCell ⟨w.heap.size, 3, none⟩ (.int .i64 0)).setCell ⟨w.heap.size, 4, none⟩ (.slice none 0 0)).setCell ⟨w.heap.size, 5, none⟩ (.slice none 0 0)).setCell ⟨w.heap.size, 6, none⟩ (.string ⟨#[]⟩)).setCell ⟨w.heap.size, 7, none⟩ (.string ⟨#[]⟩)).setCell ⟨w.heap.size, 8, none⟩ (.bool false)).setCell ⟨w.heap.size, 9, none⟩ (.bool false)) = w9 from hw9]
      refine ⟨by simp, .inl ⟨_, _, rfl, run_takeDeferred h9D, ?_⟩⟩
      refine ⟨.tuple #[.agg (chgA zeroC (.slice none 0 0) (.slice none 0 0)), .int .i64 110], by simp [results, Tryz.results7, go_sem, n0, n1, n2, n3, n4, n5, n6, n7, n8, n9, chgA, zeroC], ?_⟩
      rw [← HPR.out]
      have hbf : Below w.heap.size w (w9.putObj (w.heap.size + 4) (.deferred none)) := by
        have hz8 := hb8.size
        refine hb8.trans ?_
        exact ⟨h9g.os, h9g.tape, h9g.output, by simpa using h9g.size, fun k hk => (World.putObj_heap_other (by omega)).trans (h9g.block k (by omega) (fun e => by injection e with e; omega))⟩
      unfold ParsePost
      rw [HSO.out, if_neg hl]
      exact ⟨hbf, rfl⟩
end Go.Proofs.YtegigcneimjimaaGreatDoor
