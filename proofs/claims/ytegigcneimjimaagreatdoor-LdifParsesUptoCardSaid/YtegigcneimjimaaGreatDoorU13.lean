/- LdX, RngR. -/
import Derived.OrdersIn
import Derived.OrdersHeld
import Derived.Test.YtegigcneimjimaaGreatDoorU12
namespace Go.Proofs.YtegigcneimjimaaGreatDoor
open Go.RowKit Go.Lib Go.Shelf
open Go.RowKit Go.Lib
set_option maxRecDepth 100000
set_option maxHeartbeats 16000000
attribute [local go_sem] Oper.semAt_some
theorem SplitSeq_any (s p : List UInt8) (w : World) :
    Calls Tryz.prog 139 #[.string ⟨s.toArray⟩, .string ⟨p.toArray⟩] w fun e w' => e = .returned (.func (.func 260) #[] #[.pointer (some ⟨w.heap.size + 1, 0, none⟩), .pointer (some ⟨w.heap.size, 0, none⟩), .pointer (some ⟨w.heap.size + 1 + 1, 0, none⟩)]) ∧
      w' = (((w.alloc (.cells #[.string ⟨s.toArray⟩] 9)).alloc (.cells #[.string ⟨p.toArray⟩] 9)).alloc (.cells #[.int .i64 0] 3)) := by
  have k : Calls Tryz.prog 225 #[.string ⟨s.toArray⟩, .string ⟨p.toArray⟩, .int .i64 0] w fun e w' => e = .returned (.func (.func 260) #[] #[.pointer (some ⟨w.heap.size + 1, 0, none⟩), .pointer (some ⟨w.heap.size, 0, none⟩), .pointer (some ⟨w.heap.size + 1 + 1, 0, none⟩)]) ∧
      w' = (((w.alloc (.cells #[.string ⟨s.toArray⟩] 9)).alloc (.cells #[.string ⟨p.toArray⟩] 9)).alloc (.cells #[.int .i64 0] 3)) := by
    go_enter Tryz.func225, Tryz.ntmps225
    go_wp2
    go_ret
    exact ⟨rfl, rfl⟩
  go_enter Tryz.func139, Tryz.ntmps139
  go_wp2_with (go_at_call 225; refine k.mono ?_; rintro e w' ⟨rfl, hw'⟩; subst hw')
  go_ret
  exact ⟨rfl, rfl⟩
theorem _root_.Go.CallsIn.anyN {P : Program} {n : Nat} {f : FuncId} {args : Array Value} {w : World} {R : Ending → World → Prop} (h : CallsIn Fence.wide n P f args w R) (m : Nat) : CallsIn Fence.wide m P f args w R :=
  callsIn_wide.2 (callsIn_wide.1 h)
theorem max_block {W : World} {b : Nat} {v : Value} (h : W.cell? ⟨b, 0, none⟩ = some v) : ∃ cs t fz, W.heap[b]? = some (.cells cs t fz) ∧ cs[0]? = some v := by
  unfold World.cell? at h
  cases hb : W.heap[b]? with
  | none => simp [hb] at h
  | some o =>
    cases o with
    | cells cs t fz => simp [hb] at h; exact ⟨cs, t, fz, rfl, by simpa using h⟩
    | _ => simp [hb] at h
theorem cutL_le : ∀ (s p : List UInt8), p ∈ cutL s → p.length ≤ s.length
  | [], p, h => by simp [cutL] at h; simp [h]
  | c :: t, p, h => by
    simp only [cutL] at h
    split at h
    · rcases List.mem_cons.1 h with rfl | h
      · simp
      · have := cutL_le t p h
        simp; omega
    · split at h
      · simp at h; simp [h]
      · rename_i q qs hq
        rcases List.mem_cons.1 h with rfl | h
        · have := cutL_le t q (by rw [hq]; simp)
          simp; omega
        · have := cutL_le t p (by rw [hq]; simp [h])
          simp; omega
theorem cut_le (x : List UInt8) {n0 v0 : List UInt8} {ok : Bool} (h : cut x [58] = (n0, v0, ok)) : v0.length ≤ x.length := by
  unfold cut at h
  split at h
  · simp only [Prod.mk.injEq] at h
    rw [← h.2.1, List.length_drop]
    omega
  · simp only [Prod.mk.injEq] at h
    rw [← h.2.1]
    simp
theorem trimPrefix_le (s p : List UInt8) : (trimPrefix s p).length ≤ s.length := by
  unfold trimPrefix
  split
  · rw [List.length_drop]; omega
  · exact Nat.le_refl _
theorem cut_facts (x : List UInt8) : ((cut x [58]).2.2 = false → (cut x [58]).2.1 = []) ∧ ((cut x [58]).2.2 = true → x ≠ [45] ∧ x ≠ []) := by
  constructor
  · intro h
    unfold cut at h ⊢
    split at h
    · cases h
    · rw [if_neg (by assumption)]
  · intro h
    constructor
    · rintro rfl
      exact absurd h (by decide)
    · rintro rfl
      exact absurd h (by decide)
def gMax (k : Nat) : Prop := k = 0
theorem lines_gives (tB : Nat) (text : List UInt8) (mx : Int) (w : World) (ht : w.heap[tB]? = some (.cells #[.string ⟨text.toArray⟩] 9 (0, 0))) (hl : text.length ≤ 1000000000) (hmx : w.cell? ⟨0, 0, none⟩ = some (.int .i64 mx)) :
    Gives Tryz.prog 138 #[.pointer (some ⟨tB, 0, none⟩)] (fun p : Pr => #[.agg #[.string ⟨p.1.toArray⟩, .string ⟨p.2.toArray⟩]]) (fun k => k = tB) gMax ((cutL text).map pairB) w := by
  intro l J W hW hJ0 hJc hY n
  have htl : tB < w.heap.size := (Array.getElem?_eq_some_iff.1 ht).1
  have ht1 := (hW.block tB htl).trans ht
  have hmx1 := (hW.cell (lt_of_cell hmx)).trans hmx
  have hml : 0 < W.heap.size := lt_of_cell hmx1
  have hsW := hW.size
  have hb2 : Below W.heap.size W (W.alloc (.cells #[.func (.yield l) #[] #[]] 167)) := (Below.refl _ _).alloc (Nat.le_refl _) _
  have hy2 : (W.alloc (.cells #[.func (.yield l) #[] #[]] 167)).heap[W.heap.size]? = some (.cells #[.func (.yield l) #[] #[]] 167 (0, 0)) := alloc_at _ _ _ rfl
  have hz2 : (W.alloc (.cells #[.func (.yield l) #[] #[]] 167)).heap.size = W.heap.size + 1 := by simp
  have c1 : W.cell? ⟨tB, 0, none⟩ = some (.string ⟨text.toArray⟩) := by rw [Lib.cell_of_heap ht1]; rfl
  have c2 : (W.alloc (.cells #[.func (.yield l) #[] #[]] 167)).cell? ⟨tB, 0, none⟩ = some (.string ⟨text.toArray⟩) := (hb2.cell (p := ⟨tB, 0, none⟩) (by show tB < _; omega)).trans c1
  refine (callsIn_of_wp_marks (n := n + 1) Tryz.func138 rfl trivial ?_ rfl).anyN n
  simp only [Tryz.ntmps138, List.size_toArray, List.length_cons, List.length_nil, Nat.reduceAdd, Nat.reduceSub, Array.replicate_succ, Array.replicate_zero, List.push_toArray, List.append_toArray, List.nil_append, List.cons_append]
  gi_wp2
  generalize W.alloc (.cells #[.func (.yield l) #[] #[]] 167) = W2 at hb2 hy2 hz2 c2 ⊢
  refine ⟨trivial, ?_⟩
  refine (callsIn_wide.2 (SplitSeq_any text [10] W2)).mono ?_
  rintro e W3 ⟨rfl, hW3⟩
  gi_wp2
  rw [← hW3]
  have hb3 : Below W2.heap.size W2 W3 := by rw [hW3]; exact (((Below.refl _ _).alloc (Nat.le_refl _) _).alloc (by simp) _).alloc (by simp; omega) _
  have hz3 : W3.heap.size = W.heap.size + 4 := by rw [hW3]; simp [hz2]
  have hS : W3.heap[W.heap.size + 1]? = some (.cells #[.string ⟨text.toArray⟩] 9 (0, 0)) := by
    rw [hW3, Lib.alloc_old _ _ _ (by simp [hz2]), Lib.alloc_old _ _ _ (by simp [hz2])]
    exact alloc_at _ _ _ hz2.symm
  have hP : W3.heap[W.heap.size + 1 + 1]? = some (.cells #[.string ⟨#[10]⟩] 9 (0, 0)) := by
    rw [hW3, Lib.alloc_old _ _ _ (by simp [hz2])]
    exact alloc_at _ _ _ (by simp [hz2])
  have hV : W3.heap[W.heap.size + 1 + 1 + 1]? = some (.cells #[.int .i64 0] 3 (0, 0)) := by
    rw [hW3]
    exact alloc_at _ _ _ (by simp [hz2])
  have hbW3 : Below W.heap.size W W3 := hb2.trans (hb3.mono (by omega))
  have hy3 : W3.heap[W.heap.size]? = some (.cells #[.func (.yield l) #[] #[]] 167 (0, 0)) := (hb3.block _ (by omega)).trans hy2
  clear hW3 hb2 hy2 hz2 c2 hb3 c1
  have hmxb : ∃ cs t fz, W.heap[0]? = some (.cells cs t fz) ∧ cs[0]? = some (.int .i64 mx) := max_block hmx1
  obtain ⟨mcs, mt, mfz, hmB, hmc⟩ := hmxb
  refine range_gives (by omega) (gf := 260) rfl (enters_of Tryz.func260 (by kernel_rfl) rfl)
    (split_gives (fun k => k = 0 ∨ k = W.heap.size) (W.heap.size + 1 + 1) (W.heap.size + 1) (W.heap.size + 1 + 1 + 1) text W3 hS hP hV (by omega) hl) (Below.refl _ _)
    (fun k hk => by omega) (fun k hk => by omega) (fun _ => rfl)
    (fun hi pre Wq => J hi (pre.map pairB) Wq ∧ Wq.heap[W.heap.size]? = some (.cells #[.func (.yield l) #[] #[]] 167 (0, 0)) ∧ Wq.heap[0]? = some (.cells mcs mt mfz))
    ?init ?clos
    (fun hi pre x a' Wq => a' = { tmps := #[Value.func (Fn.yield l) #[] #[], Value.pointer (some ⟨tB, 0, none⟩), Value.pointer (some ⟨W.heap.size, 0, none⟩), Value.string ⟨x.toArray⟩, undef, undef, undef, undef, undef, undef, Value.string ⟨text.toArray⟩, Value.func (Fn.func 260) #[] #[Value.pointer (some ⟨W.heap.size + 1 + 1, 0, none⟩), Value.pointer (some ⟨W.heap.size + 1, 0, none⟩), Value.pointer (some ⟨W.heap.size + 1 + 1 + 1, 0, none⟩)], Value.string ⟨x.toArray⟩, undef, undef, undef, undef, undef, undef, undef, undef, undef, undef, undef, undef, undef, undef, undef, undef, undef, undef, undef, undef, undef, undef, undef, undef, undef, undef, undef, undef, undef, undef, undef, undef, undef, undef, undef, undef, undef, undef, undef], defers := [] } ∧ J hi (pre.map pairB) Wq ∧ Wq.heap[W.heap.size]? = some (.cells #[.func (.yield l) #[] #[]] 167 (0, 0)) ∧ Wq.heap[0]? = some (.cells mcs mt mfz))
    ?aclos ?assign ?body ?done
  case init =>
    intro hi W' h1 h2 hb
    exact ⟨hJ0 hi W' (by omega) h2 (hbW3.trans (hb.mono (by omega))), (hb.block _ (by omega)).trans hy3, (hb.block _ (by omega)).trans ((hbW3.block _ hml).trans hmB)⟩
  case clos =>
    rintro hi pre Wa Wb h1 ⟨j1, j2, j3⟩ ho
    have hlt := (Array.getElem?_eq_some_iff.1 j2).1
    refine ⟨hJc hi _ Wa Wb (by omega) j1 (ho.mono (fun k hk => ?_)), (ho.block _ hlt (fun hk => ?_)).trans j2, (ho.block _ (by omega) (fun hk => ?_)).trans j3⟩
    · rcases hk with hk | hk <;> exact .inl (by omega)
    · rcases hk with hk | hk <;> omega
    · rcases hk with hk | hk <;> omega
  case aclos =>
    rintro hi pre x a' Wa Wb h1 ⟨rfl, j1, j2, j3⟩ ho
    have hlt := (Array.getElem?_eq_some_iff.1 j2).1
    refine ⟨rfl, hJc hi _ Wa Wb (by omega) j1 (ho.mono (fun k hk => ?_)), (ho.block _ hlt (fun hk => ?_)).trans j2, (ho.block _ (by omega) (fun hk => ?_)).trans j3⟩
    · rcases hk with hk | hk <;> exact .inl (by omega)
    · rcases hk with hk | hk <;> omega
    · rcases hk with hk | hk <;> omega
  case assign =>
    rintro m hi pre x Wq K h1 h2 h3 ⟨j1, j2, j3⟩ hK
    gi_wp2
    exact hK _ _ ⟨rfl, j1, j2, j3⟩ (Nat.le_refl _) (fun _ _ => rfl)
  case body =>
    rintro m hi pre x a' Wq h1 h2 h3 ⟨rfl, j1, j2, j3⟩
    have hxm : x ∈ cutL text := by
      obtain ⟨r, hr⟩ := h3
      rw [← hr]; simp
    have hxl := cutL_le text x hxm
    have hmq : Wq.cell? ⟨0, 0, none⟩ = some (.int .i64 mx) := by simp [World.cell?, j3, hmc]
    have hpx : pre.map pairB ++ [pairB x] <+: (cutL text).map pairB := by
      obtain ⟨r, hr⟩ := h3
      exact ⟨r.map pairB, by rw [← hr]; simp⟩
    obtain ⟨n0, v0, ok0, hcut⟩ : ∃ a b c, cut x [58] = (a, b, c) := ⟨_, _, _, rfl⟩
    have kc : Calls Tryz.prog 140 #[.string ⟨x.toArray⟩, .string ⟨#[58]⟩] Wq fun e w' => e = .returned (.tuple #[.string ⟨n0.toArray⟩, .string ⟨v0.toArray⟩, .bool ok0]) ∧ ∃ n, w' = Wq.drewN n := by
      have k := Tryz.strings_Cut ⟨x.toArray⟩ ⟨#[58]⟩ mx Wq (by rw [Lib.size_mk]; omega) hmq
      rw [show (⟨x.toArray⟩ : ByteArray).data.toList = x from rfl, show (⟨#[58]⟩ : ByteArray).data.toList = [58] from rfl, hcut] at k
      exact k
    obtain ⟨cd, hcd⟩ : ∃ b, hasPrefix v0 [58, 32] = b := ⟨_, rfl⟩
    obtain ⟨v9, hv9⟩ : ∃ b, trimPrefix v0 [58] = b := ⟨_, rfl⟩
    obtain ⟨v1, hv1⟩ : ∃ b, trimPrefix v9 [32] = b := ⟨_, rfl⟩
    have kh : ∀ w', Calls Tryz.prog 141 #[.string ⟨v0.toArray⟩, .string ⟨#[58, 32]⟩] w' fun e w'' => e = .returned (.bool cd) ∧ w'' = w' := fun w' => by
      have k := Tryz.strings_HasPrefix ⟨v0.toArray⟩ ⟨#[58, 32]⟩ w'
      rw [show (⟨v0.toArray⟩ : ByteArray).data.toList = v0 from rfl, show (⟨#[58, 32]⟩ : ByteArray).data.toList = [58, 32] from rfl, hcd] at k
      exact k
    have kt : ∀ w', Calls Tryz.prog 142 #[.string ⟨v0.toArray⟩, .string ⟨#[58]⟩] w' fun e w'' => e = .returned (.string ⟨v9.toArray⟩) ∧ w'' = w' := fun w' => by
      have k := Tryz.strings_TrimPrefix ⟨v0.toArray⟩ ⟨#[58]⟩ w'
      rw [show (⟨v0.toArray⟩ : ByteArray).data.toList = v0 from rfl, show (⟨#[58]⟩ : ByteArray).data.toList = [58] from rfl, hv9] at k
      exact k
    have kt2 : ∀ w', Calls Tryz.prog 142 #[.string ⟨v9.toArray⟩, .string ⟨#[32]⟩] w' fun e w'' => e = .returned (.string ⟨v1.toArray⟩) ∧ w'' = w' := fun w' => by
      have k := Tryz.strings_TrimPrefix ⟨v9.toArray⟩ ⟨#[32]⟩ w'
      rw [show (⟨v9.toArray⟩ : ByteArray).data.toList = v9 from rfl, show (⟨#[32]⟩ : ByteArray).data.toList = [32] from rfl, hv1] at k
      exact k
    have hpv : pairV v0 = if cd = true then unb v1 else some v1 := by
      unfold pairV
      rw [hcd, hv9, hv1]
    have hpb : pairB x = (if (ok0 && (pairV v0).isSome) = false ∧ x ≠ [45] ∧ x ≠ [] then [] else n0, (pairV v0).getD []) := by
      unfold pairB
      rw [hcut]
    have hfact := cut_facts x
    rw [hcut] at hfact
    have hv1l : v1.length ≤ x.length := by
      have a1 : v0.length ≤ x.length := cut_le x hcut
      have a2 : v9.length ≤ v0.length := by rw [← hv9]; exact trimPrefix_le _ _
      have a3 : v1.length ≤ v9.length := by rw [← hv1]; exact trimPrefix_le _ _
      omega
    have hfin : ∀ (NM VL : List UInt8), pairB x = (NM, VL) → ∀ Wy, Below Wq.heap.size Wq Wy → Wy.cell? ⟨W.heap.size, 0, none⟩ = some (.func (.yield l) #[] #[]) ∧ ∀ m', YieldAt Fence.wide m' Tryz.prog l #[.agg #[.string ⟨NM.toArray⟩, .string ⟨VL.toArray⟩]] Wy fun e W4 => e = .returned (.bool true) ∧ ((J hi ((pre ++ [x]).map pairB) W4 ∧ W4.heap[W.heap.size]? = some (.cells #[.func (.yield l) #[] #[]] 167 (0, 0)) ∧ W4.heap[0]? = some (.cells mcs mt mfz)) ∧ Wq.heap.size ≤ W4.heap.size ∧ ∀ k, Mine W3.heap.size hi (fun k => k = W.heap.size + 1 + 1 ∨ k = W.heap.size + 1 ∨ k = W.heap.size + 1 + 1 + 1) k ∨ (k = 0 ∨ k = W.heap.size) → W4.heap[k]? = Wq.heap[k]?) := by
      intro NM VL hp Wy hb
      have hy := (hb.block _ (by omega)).trans j2
      refine ⟨by rw [Lib.cell_of_heap hy]; rfl, fun m' => ?_⟩
      have hYm := hY hi (pre.map pairB) (pairB x) Wy (by omega) (Nat.le_trans h2 hb.size) hpx (hJc hi _ Wq Wy (by omega) j1 (Outside.of_below hb)) m'
      rw [hp] at hYm
      refine YieldAt.mono hYm ?_
      rintro e W4 ⟨he, hJ4, hs4, hk4⟩
      have hbx := (hk4 W.heap.size (.inl (.inl ⟨by omega, by omega⟩))).trans hy
      have hmx4 := (hk4 0 (.inr rfl)).trans ((hb.block _ (by omega)).trans j3)
      refine ⟨he, ⟨by rw [List.map_append, List.map_singleton, hp]; exact hJ4, hbx, hmx4⟩, Nat.le_trans hb.size hs4, fun k hk => ?_⟩
      have hk2 : k < Wq.heap.size ∧ (Mine W.heap.size hi (fun k => k = tB) k ∨ gMax k) := by
        rcases hk with (hk | hk) | (hk | hk)
        · exact ⟨by omega, .inl (.inl ⟨by omega, hk.2⟩)⟩
        · exact ⟨by omega, .inl (.inl ⟨by omega, by omega⟩)⟩
        · exact ⟨by omega, .inr hk⟩
        · exact ⟨by omega, .inl (.inl ⟨by omega, by omega⟩)⟩
      exact (hk4 k hk2.2).trans (hb.block k hk2.1)
    have hlq : W.heap.size < Wq.heap.size := by omega
    have HPB := Lib.hid hpb
    have HPV := Lib.hid hpv
    have HF := Lib.hid hfact
    have HCUT := Lib.hid hcut
    have HCD := Lib.hid hcd
    clear hpb hpv hfact hcut hcd hv9 hv1 hpx hmq hxm
    cases ok0 with
    | true =>
      have hx45 : (x == [45]) = false := by have := (HF.out.2 rfl).1; simpa using this
      have hx0 : (x == []) = false := by have := (HF.out.2 rfl).2; simpa using this
      have hx0' : x.isEmpty = false := by have := (HF.out.2 rfl).2; simpa using this
      cases cd with
      | false =>
        have hp : pairB x = (n0, v1) := by
          rw [HPB.out, HPV.out]
          simp
        have HP := Lib.hid hp
        clear hp
        gi_wp2
        refine ⟨trivial, (fun h => by cases h), ?_⟩
        refine (CallsIn.inRound _ (callsIn_wide.2 kc)).mono ?_
        rintro e w5 ⟨rfl, nq, hw5⟩
        have hb5 : Below Wq.heap.size Wq w5 := by rw [hw5]; exact (⟨rfl, rfl, rfl, Nat.le_refl _, fun _ _ => rfl⟩ : Below Wq.heap.size Wq (Wq.drewN nq))
        clear hw5
        gi_wp2
        refine ⟨trivial, (fun h => by cases h), ?_⟩
        refine (CallsIn.inRound _ (callsIn_wide.2 (kh w5))).mono ?_
        rintro e w' ⟨rfl, rfl⟩
        gi_wp2
        refine ⟨trivial, (fun h => by cases h), ?_⟩
        refine (CallsIn.inRound _ (callsIn_wide.2 (kt w'))).mono ?_
        rintro e w'' ⟨rfl, rfl⟩
        gi_wp2
        refine ⟨trivial, (fun h => by cases h), ?_⟩
        refine (CallsIn.inRound _ (callsIn_wide.2 (kt2 w''))).mono ?_
        rintro e w6 ⟨rfl, rfl⟩
        obtain ⟨cy, hyy⟩ := hfin _ _ HP.out w6 hb5
        obtain ⟨f1, t1, a1, b1, hy1, hR1⟩ := hyy (m - 1)
        gi_wp2
        refine ⟨(fun h => by cases h), RoundIn.mono (F := Fence.wide.inRound (W3.heap.size + 1)) hR1 ?_⟩
        rintro e W4 ⟨rfl, hfinal⟩
        gi_wp2
        exact hfinal
      | true =>
        have ku := fun w' => Unbase64_any v1 w' (by omega)
        cases hu : unb v1 with
        | some b =>
          rw [hu] at ku
          simp only [Option.getD_some, Option.isSome_some, if_true] at ku
          have hp : pairB x = (n0, b) := by
            rw [HPB.out, HPV.out, if_pos rfl, hu]
            simp
          have HP := Lib.hid hp
          clear hp
          gi_wp2
          refine ⟨trivial, (fun h => by cases h), ?_⟩
          refine (CallsIn.inRound _ (callsIn_wide.2 kc)).mono ?_
          rintro e w5 ⟨rfl, nq, hw5⟩
          have hb5 : Below Wq.heap.size Wq w5 := by rw [hw5]; exact (⟨rfl, rfl, rfl, Nat.le_refl _, fun _ _ => rfl⟩ : Below Wq.heap.size Wq (Wq.drewN nq))
          clear hw5
          gi_wp2
          refine ⟨trivial, (fun h => by cases h), ?_⟩
          refine (CallsIn.inRound _ (callsIn_wide.2 (kh w5))).mono ?_
          rintro e w' ⟨rfl, rfl⟩
          gi_wp2
          refine ⟨trivial, (fun h => by cases h), ?_⟩
          refine (CallsIn.inRound _ (callsIn_wide.2 (kt w'))).mono ?_
          rintro e w'' ⟨rfl, rfl⟩
          gi_wp2
          refine ⟨trivial, (fun h => by cases h), ?_⟩
          refine (CallsIn.inRound _ (callsIn_wide.2 (kt2 w''))).mono ?_
          rintro e w6 ⟨rfl, rfl⟩
          gi_wp2
          refine ⟨trivial, (fun h => by cases h), ?_⟩
          refine (CallsIn.inRound _ (callsIn_wide.2 (ku w6))).mono ?_
          rintro e w7 ⟨rfl, hb7⟩
          replace hb5 := below_ext hb5 hb7
          obtain ⟨cy, hyy⟩ := hfin _ _ HP.out w7 hb5
          obtain ⟨f1, t1, a1, b1, hy1, hR1⟩ := hyy (m - 1)
          gi_wp2
          refine ⟨(fun h => by cases h), RoundIn.mono (F := Fence.wide.inRound (W3.heap.size + 1)) hR1 ?_⟩
          rintro e W4 ⟨rfl, hfinal⟩
          gi_wp2
          exact hfinal
        | none =>
          rw [hu] at ku
          simp only [Option.getD_none, Option.isSome_none, Bool.false_eq_true, if_false] at ku
          have hne := HF.out.2 rfl
          have hp : pairB x = ([], []) := by
            rw [HPB.out, HPV.out, if_pos rfl, hu]
            simp [hne.1, hne.2]
          have HP := Lib.hid hp
          clear hp
          gi_wp2
          refine ⟨trivial, (fun h => by cases h), ?_⟩
          refine (CallsIn.inRound _ (callsIn_wide.2 kc)).mono ?_
          rintro e w5 ⟨rfl, nq, hw5⟩
          have hb5 : Below Wq.heap.size Wq w5 := by rw [hw5]; exact (⟨rfl, rfl, rfl, Nat.le_refl _, fun _ _ => rfl⟩ : Below Wq.heap.size Wq (Wq.drewN nq))
          clear hw5
          gi_wp2
          refine ⟨trivial, (fun h => by cases h), ?_⟩
          refine (CallsIn.inRound _ (callsIn_wide.2 (kh w5))).mono ?_
          rintro e w' ⟨rfl, rfl⟩
          gi_wp2
          refine ⟨trivial, (fun h => by cases h), ?_⟩
          refine (CallsIn.inRound _ (callsIn_wide.2 (kt w'))).mono ?_
          rintro e w'' ⟨rfl, rfl⟩
          gi_wp2
          refine ⟨trivial, (fun h => by cases h), ?_⟩
          refine (CallsIn.inRound _ (callsIn_wide.2 (kt2 w''))).mono ?_
          rintro e w6 ⟨rfl, rfl⟩
          gi_wp2
          refine ⟨trivial, (fun h => by cases h), ?_⟩
          refine (CallsIn.inRound _ (callsIn_wide.2 (ku w6))).mono ?_
          rintro e w7 ⟨rfl, hb7⟩
          replace hb5 := below_ext hb5 hb7
          obtain ⟨cy, hyy⟩ := hfin _ _ HP.out w7 hb5
          obtain ⟨f1, t1, a1, b1, hy1, hR1⟩ := hyy (m - 1)
          gi_wp2
          refine ⟨(fun h => by cases h), RoundIn.mono (F := Fence.wide.inRound (W3.heap.size + 1)) hR1 ?_⟩
          rintro e W4 ⟨rfl, hfinal⟩
          gi_wp2
          exact hfinal
    | false =>
      have hcd0 : cd = false := by
        have h0 : v0 = [] := HF.out.1 rfl
        rw [← HCD.out, h0]; rfl
      subst hcd0
      by_cases hx45 : x = [45]
      · have hb1 : (x == [45]) = true := by simpa using hx45
        have HNM := Lib.hid hx45
        clear hx45
        have hp : pairB x = (n0, v1) := by
          rw [HPB.out, HPV.out]
          simp [HNM.out]
        have HP := Lib.hid hp
        clear hp
        gi_wp2
        refine ⟨trivial, (fun h => by cases h), ?_⟩
        refine (CallsIn.inRound _ (callsIn_wide.2 kc)).mono ?_
        rintro e w5 ⟨rfl, nq, hw5⟩
        have hb5 : Below Wq.heap.size Wq w5 := by rw [hw5]; exact (⟨rfl, rfl, rfl, Nat.le_refl _, fun _ _ => rfl⟩ : Below Wq.heap.size Wq (Wq.drewN nq))
        clear hw5
        gi_wp2
        refine ⟨trivial, (fun h => by cases h), ?_⟩
        refine (CallsIn.inRound _ (callsIn_wide.2 (kh w5))).mono ?_
        rintro e w' ⟨rfl, rfl⟩
        gi_wp2
        refine ⟨trivial, (fun h => by cases h), ?_⟩
        refine (CallsIn.inRound _ (callsIn_wide.2 (kt w'))).mono ?_
        rintro e w'' ⟨rfl, rfl⟩
        gi_wp2
        refine ⟨trivial, (fun h => by cases h), ?_⟩
        refine (CallsIn.inRound _ (callsIn_wide.2 (kt2 w''))).mono ?_
        rintro e w6 ⟨rfl, rfl⟩
        obtain ⟨cy, hyy⟩ := hfin _ _ HP.out w6 hb5
        obtain ⟨f1, t1, a1, b1, hy1, hR1⟩ := hyy (m - 1)
        gi_wp2
        refine ⟨(fun h => by cases h), RoundIn.mono (F := Fence.wide.inRound (W3.heap.size + 1)) hR1 ?_⟩
        rintro e W4 ⟨rfl, hfinal⟩
        gi_wp2
        exact hfinal
      · have hb1 : (x == [45]) = false := by simpa using hx45
        by_cases hx0 : x = []
        · have hb2 : x.isEmpty = true := by simpa using hx0
          have hb3 : (x == []) = true := by simpa using hx0
          have HNM := Lib.hid hx0
          clear hx0 hx45
          have hp : pairB x = (n0, v1) := by
            rw [HPB.out, HPV.out]
            simp [HNM.out]
          have HP := Lib.hid hp
          clear hp
          gi_wp2
          refine ⟨trivial, (fun h => by cases h), ?_⟩
          refine (CallsIn.inRound _ (callsIn_wide.2 kc)).mono ?_
          rintro e w5 ⟨rfl, nq, hw5⟩
          have hb5 : Below Wq.heap.size Wq w5 := by rw [hw5]; exact (⟨rfl, rfl, rfl, Nat.le_refl _, fun _ _ => rfl⟩ : Below Wq.heap.size Wq (Wq.drewN nq))
          clear hw5
          gi_wp2
          refine ⟨trivial, (fun h => by cases h), ?_⟩
          refine (CallsIn.inRound _ (callsIn_wide.2 (kh w5))).mono ?_
          rintro e w' ⟨rfl, rfl⟩
          gi_wp2
          refine ⟨trivial, (fun h => by cases h), ?_⟩
          refine (CallsIn.inRound _ (callsIn_wide.2 (kt w'))).mono ?_
          rintro e w'' ⟨rfl, rfl⟩
          gi_wp2
          refine ⟨trivial, (fun h => by cases h), ?_⟩
          refine (CallsIn.inRound _ (callsIn_wide.2 (kt2 w''))).mono ?_
          rintro e w6 ⟨rfl, rfl⟩
          obtain ⟨cy, hyy⟩ := hfin _ _ HP.out w6 hb5
          obtain ⟨f1, t1, a1, b1, hy1, hR1⟩ := hyy (m - 1)
          gi_wp2
          refine ⟨(fun h => by cases h), RoundIn.mono (F := Fence.wide.inRound (W3.heap.size + 1)) hR1 ?_⟩
          rintro e W4 ⟨rfl, hfinal⟩
          gi_wp2
          exact hfinal
        · have hb2 : x.isEmpty = false := by simpa using hx0
          have hb3 : (x == []) = false := by simpa using hx0
          have HNM := Lib.hid hx0
          have HNN := Lib.hid hx45
          clear hx0 hx45
          have hp : pairB x = ([], v1) := by
            rw [HPB.out, HPV.out]
            simp [HNM.out, HNN.out]
          have HP := Lib.hid hp
          clear hp
          gi_wp2
          refine ⟨trivial, (fun h => by cases h), ?_⟩
          refine (CallsIn.inRound _ (callsIn_wide.2 kc)).mono ?_
          rintro e w5 ⟨rfl, nq, hw5⟩
          have hb5 : Below Wq.heap.size Wq w5 := by rw [hw5]; exact (⟨rfl, rfl, rfl, Nat.le_refl _, fun _ _ => rfl⟩ : Below Wq.heap.size Wq (Wq.drewN nq))
          clear hw5
          gi_wp2
          refine ⟨trivial, (fun h => by cases h), ?_⟩
          refine (CallsIn.inRound _ (callsIn_wide.2 (kh w5))).mono ?_
          rintro e w' ⟨rfl, rfl⟩
          gi_wp2
          refine ⟨trivial, (fun h => by cases h), ?_⟩
          refine (CallsIn.inRound _ (callsIn_wide.2 (kt w'))).mono ?_
          rintro e w'' ⟨rfl, rfl⟩
          gi_wp2
          refine ⟨trivial, (fun h => by cases h), ?_⟩
          refine (CallsIn.inRound _ (callsIn_wide.2 (kt2 w''))).mono ?_
          rintro e w6 ⟨rfl, rfl⟩
          obtain ⟨cy, hyy⟩ := hfin _ _ HP.out w6 hb5
          obtain ⟨f1, t1, a1, b1, hy1, hR1⟩ := hyy (m - 1)
          gi_wp2
          refine ⟨(fun h => by cases h), RoundIn.mono (F := Fence.wide.inRound (W3.heap.size + 1)) hR1 ?_⟩
          rintro e W4 ⟨rfl, hfinal⟩
          gi_wp2
          exact hfinal
  case done =>
    rintro hi Wq h1 ⟨j1, j2, j3⟩ hD
    gi_wp2
    refine ⟨by simp, .inl ⟨_, _, rfl, run_takeDeferred hD, ?_⟩⟩
    exact ⟨_, results_none rfl _ _ _, ⟨_, rfl⟩, hi, by omega, hJc hi _ _ _ (by omega) j1 (Outside.put _ _ _ (.inl ⟨by omega, by omega⟩))⟩
theorem rows_in {P : Program} {n l : Nat} {row : String} {args : Array Value} {w : World} {R : Value → World → Prop} (h : Rows P row args w R) : RowsIn (Fence.wide.inRound l) n P row args w R :=
  fun c cs _ => let ⟨v, w', r, s⟩ := h c cs; ⟨v, w', r, stepsIn_wide.2 s⟩
theorem op_in {P : Program} {n l : Nat} {o : Oper} {a : Act} {w : World} {K : Act → World → Prop} {Q : Exit → Act → World → Prop} (hd : ∀ c, o.op ≠ .defer c) (h : o.wp P a w K Q) : o.wpIn (Fence.wide.inRound l) n P a w K Q := by
  refine ⟨fun _ _ => trivial, ?_⟩
  show Oper.uponIn (Fence.wide.inRound l) n P o a K Q ((o.semAt (some l) a.eval).run P w)
  rw [Oper.semAt_some l _ _ hd]
  unfold Oper.wp at h
  generalize (execOp a.eval o).run P w = r at *
  cases r with
  | ok x w' =>
    cases x <;> simp only [Oper.upon, Oper.uponIn] at h ⊢ <;>
      first
        | exact h
        | exact ⟨(fun hh => by cases hh), CallsIn.inRound l (callsIn_wide.2 h)⟩
        | exact ⟨(fun hh => by cases hh), rows_in h⟩
  | halt x w' => cases x <;> simp only [Oper.upon, Oper.uponIn] at h ⊢ <;> exact h
theorem any_in {P : Program} {md : Region.Mode} {ops : Array Oper} {Q : Exit → Act → World → Prop} {n l : Nat} (hd : ∀ (i : Nat) (o : Oper), ops[i]? = some o → ∀ c, o.op ≠ .defer c) (hq : ¬ LetsOut Q) :
    ∀ (fuel : Nat) (listed : Array Bool) (a : Act) (w : World), wpAny P md ops Q fuel listed a w → wpAnyIn (Fence.wide.inRound l) n P md ops Q fuel listed a w
  | 0, _, _, _, h => h
  | fuel + 1, listed, a, w, h => by
    refine ⟨h.1, fun i hi => ?_⟩
    have h2 := h.2 i hi
    unfold wpOp at h2
    unfold wpOpIn
    split
    · rename_i ho
      rw [ho] at h2
      exact any_in hd hq fuel _ _ _ h2
    · rename_i o ho
      simp only [ho] at h2
      split
      · rename_i hw
        simp only [hw, if_true] at h2
        rcases h2 with h2 | h2
        · exact Oper.wpIn_mono (fun a w h => any_in hd hq fuel _ a w h) (op_in (hd i o ho) h2)
        · exact absurd h2.2 hq
      · rename_i hw
        simp only [hw] at h2
        exact ⟨fun _ _ => trivial, any_in hd hq fuel _ _ _ h2⟩
def noDefer (o : Oper) : Bool := match o.op with | .defer _ => false | _ => true
theorem noDefer_all {ops : Array Oper} (h : ops.toList.all noDefer = true) : ∀ (i : Nat) (o : Oper), ops[i]? = some o → ∀ c, o.op ≠ .defer c := by
  intro i o ho c hc
  have hm : o ∈ ops.toList := Array.mem_def.1 (Array.mem_of_getElem? ho)
  have := List.all_eq_true.1 h o hm
  simp [noDefer, hc] at this
theorem region_in {P : Program} {ops : Array Oper} {Q : Exit → Act → World → Prop} {n l id : Nat} {a : Act} {w : World} (hm : P.follows .mixedOrders = true) (hd : ops.toList.all noDefer = true) (hq : ¬ LetsOut Q)
    (h : wpAny P .any ops Q ops.size (Array.replicate ops.size false) a w.drew) : (Code.region id ops true).wpIn (Fence.wide.inRound l) n P Q a w :=
  wpIn_region_any hm (any_in (noDefer_all hd) hq _ _ _ _ h)
theorem region_inH {P : Program} {ops : Array Oper} {Q : Exit → Act → World → Prop} {S : World → Prop} {n l id : Nat} {a : Act} {w : World} (hm : P.follows .mixedOrders = true) (hd : ops.toList.all noDefer = true) (hq : ¬ LetsOut Q)
    (h : wpAnyH P .any ops Q S ops.size (Array.replicate ops.size false) a w.drew) : (Code.region id ops true).wpIn (Fence.wide.inRound l) n P Q a w :=
  region_in hm hd hq (wpAny_of_held _ _ _ _ h)
theorem anyH_take {P : Program} {md : Region.Mode} {ops : Array Oper} {Q : Exit → Act → World → Prop} {S : World → Prop} (i : Nat) (v : Value) {oi : Oper} {fuel : Nat} {listed : Array Bool} {a : Act} {w : World} (hi : ops[i]? = some oi)
    (hs : Region.noSelect ops = true) (hf : Region.free md ops listed i = true) (hr : (Region.ready md ops listed).contains i = true) (hQ : ∀ c a w, Q (.panic c) (a.put oi.dst v) w → Q (.panic c) a w)
    (hw : Region.wanted oi (yielded ops a.tmps) = true) (hy : ∀ w, S w → (execOp a.eval oi).run P w = .ok (.value v) w) (hS : S w)
    (h : ∀ K' : Act → World → Prop, (∀ a w, wpAnyH P md ops Q S fuel (listed.setIfInBounds i true) a w → K' a w) → K' (a.put oi.dst v) w) : wpAnyH P md ops Q S (fuel + 1) listed a w :=
  wpAnyH_take hi hs hf hr hQ (Or.inl ⟨hw, hy⟩) hS (h _ (fun _ _ k => k))
theorem anyH_one {P : Program} {md : Region.Mode} {ops : Array Oper} {Q : Exit → Act → World → Prop} {S : World → Prop} (i : Nat) {o : Oper} {fuel : Nat} {listed : Array Bool} {a : Act} {w : World}
    (hr : Region.ready md ops listed = [i]) (ho : ops[i]? = some o) (hw : Region.wanted o (yielded ops a.tmps) = true)
    (h : ∀ K' : Act → World → Prop, (∀ a w, S w → wpAnyH P md ops Q S fuel (listed.setIfInBounds i true) a w → K' a w) → Oper.wp P o a w K' Q) : wpAnyH P md ops Q S (fuel + 1) listed a w :=
  wpAnyH_all hr (by simp) (fun j hj => by
    simp only [List.mem_singleton] at hj
    subst hj
    unfold wpOp
    rw [ho]
    simp only [hw, if_true]
    exact .inl (h _ (fun _ _ s k => ⟨s, k⟩)))
theorem anyH_two {P : Program} {md : Region.Mode} {ops : Array Oper} {Q : Exit → Act → World → Prop} {S : World → Prop} (i j : Nat) {o o' : Oper} {fuel : Nat} {listed : Array Bool} {a : Act} {w : World}
    (hr : Region.ready md ops listed = [i, j]) (ho : ops[i]? = some o) (hw : Region.wanted o (yielded ops a.tmps) = true) (ho' : ops[j]? = some o') (hw' : Region.wanted o' (yielded ops a.tmps) = true)
    (h : ∀ K' : Act → World → Prop, (∀ a w, S w → wpAnyH P md ops Q S fuel (listed.setIfInBounds i true) a w → K' a w) → Oper.wp P o a w K' Q)
    (h' : ∀ K' : Act → World → Prop, (∀ a w, S w → wpAnyH P md ops Q S fuel (listed.setIfInBounds j true) a w → K' a w) → Oper.wp P o' a w K' Q) : wpAnyH P md ops Q S (fuel + 1) listed a w :=
  wpAnyH_all hr (by simp) (fun k hk => by
    simp only [List.mem_cons, List.not_mem_nil, or_false] at hk
    rcases hk with rfl | rfl
    · unfold wpOp
      rw [ho]
      simp only [hw, if_true]
      exact .inl (h _ (fun _ _ s k => ⟨s, k⟩))
    · unfold wpOp
      rw [ho']
      simp only [hw', if_true]
      exact .inl (h' _ (fun _ _ s k => ⟨s, k⟩)))
end Go.Proofs.YtegigcneimjimaaGreatDoor
