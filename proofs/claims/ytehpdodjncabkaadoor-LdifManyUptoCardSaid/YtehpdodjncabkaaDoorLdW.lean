/- strings.SplitSeq at the sign 10: what it hands out. -/
import Derived.Test.YtehpdodjncabkaaDoorLdU
import Derived.Test.YtehpdodjncabkaaDoorRng
import Derived.Shelf.Abstract
import Derived.Shelf.RegionOpen
import Derived.OwnWalkIn
import Derived.TacticsInMore
import Derived.LoopNIn
import Derived.LoopIn
namespace Go.Proofs.YtehpdodjncabkaaDoor
open Go.RowKit Go.Lib Go.Shelf
attribute [local go_sem] Oper.semAt_some

theorem cutL_at : ∀ (s : List UInt8), (indexByte s 10 = -1 ∧ cutL s = [s]) ∨ ∃ i : Nat, indexByte s 10 = i ∧ i < s.length ∧ cutL s = s.take i :: cutL (s.drop (i + 1))
  | [] => .inl ⟨rfl, rfl⟩
  | c :: t => by
    by_cases hc : c = 10
    · subst hc
      exact .inr ⟨0, by simp [indexByte], by simp, by simp [cutL]⟩
    · have hcb : (c == 10) = false := by simpa using hc
      rcases cutL_at t with ⟨h1, h2⟩ | ⟨i, h1, h2, h3⟩
      · left
        refine ⟨by simp only [indexByte]; rw [if_neg (by simpa using hc), h1]; rfl, ?_⟩
        simp only [cutL]
        rw [if_neg hc, h2]
      · right
        refine ⟨i + 1, by simp only [indexByte]; rw [if_neg (by simpa using hc), h1, if_neg (by simp)]; rfl, by simp; omega, ?_⟩
        simp only [cutL]
        rw [if_neg hc, h3]
        simp
theorem ext_take (l : List UInt8) (i : Nat) : (⟨l.toArray⟩ : ByteArray).extract 0 i = ⟨(l.take i).toArray⟩ := by
  apply ByteArray.ext
  apply Array.ext'
  rw [Lib.extract_data]
  simp
theorem ext_drop (l : List UInt8) (i : Nat) : (⟨l.toArray⟩ : ByteArray).extract i l.length = ⟨(l.drop i).toArray⟩ := by
  apply ByteArray.ext
  apply Array.ext'
  rw [Lib.extract_data]
  show (l.drop i).take (l.length - i) = l.drop i
  rw [List.take_of_length_le (by rw [List.length_drop]; exact Nat.le_refl _)]
theorem Outside.put3 (w : World) (b : Nat) (v : Value) (T : Nat → Prop) (h : T b) : Outside T w (w.setCell ⟨b, 0, none⟩ v) :=
  ⟨rfl, rfl, rfl, Nat.le_of_eq (by simp), fun k _ hk => Below.heap_setCell w ⟨b, 0, none⟩ v k (fun e => hk (e ▸ h))⟩
def strN (b : Nat) (w : World) : Nat :=
  match w.cell? ⟨b, 0, none⟩ with
  | some (.string s) => s.size
  | _ => 0
theorem strN_at {b : Nat} {w : World} {s : List UInt8} (h : w.heap[b]? = some (.cells #[.string ⟨s.toArray⟩] 9 (0, 0))) : strN b w = s.length := by
  have : w.cell? ⟨b, 0, none⟩ = some (.string ⟨s.toArray⟩) := by rw [Lib.cell_of_heap h]; rfl
  simp [strN, this, ByteArray.size]
def SRel (pB sB vB hi : Nat) (text : List UInt8) (J : Nat → List (List UInt8) → World → Prop) (wr : World) : Prop :=
  ∃ (pre : List (List UInt8)) (rest : List UInt8), cutL text = pre ++ cutL rest ∧ rest.length ≤ 1000000000 ∧ wr.heap[sB]? = some (.cells #[.string ⟨rest.toArray⟩] 9 (0, 0)) ∧ wr.heap[pB]? = some (.cells #[.string ⟨#[10]⟩] 9 (0, 0)) ∧ wr.heap[vB]? = some (.cells #[.int .i64 0] 3 (0, 0)) ∧ J hi pre wr ∧ hi ≤ wr.heap.size
set_option maxRecDepth 100000 in
set_option maxHeartbeats 4000000 in
theorem split_gives (G : Nat → Prop) (pB sB vB : Nat) (text : List UInt8) (w : World) (hs : w.heap[sB]? = some (.cells #[.string ⟨text.toArray⟩] 9 (0, 0))) (hp : w.heap[pB]? = some (.cells #[.string ⟨#[10]⟩] 9 (0, 0))) (hv : w.heap[vB]? = some (.cells #[.int .i64 0] 3 (0, 0))) (hps : pB ≠ sB) (ht : text.length ≤ 1000000000) :
    Gives Tryd.prog 91 #[.pointer (some ⟨pB, 0, none⟩), .pointer (some ⟨sB, 0, none⟩), .pointer (some ⟨vB, 0, none⟩)] (fun x : List UInt8 => #[.string ⟨x.toArray⟩]) (fun k => k = pB ∨ k = sB ∨ k = vB) G (cutL text) w := by
  intro l J W hW hJ0 hJc hY n
  have hlt : ∀ k o, w.heap[k]? = some o → k < w.heap.size := fun k o h => (Array.getElem?_eq_some_iff.1 h).1
  have hs1 := (hW.block sB (hlt _ _ hs)).trans hs
  have hp1 := (hW.block pB (hlt _ _ hp)).trans hp
  have hv1 := (hW.block vB (hlt _ _ hv)).trans hv
  have hvs : vB ≠ sB := by
    rintro rfl
    rw [hs] at hv
    simp at hv
  refine callsIn_of_wp Tryd.func91 rfl trivial ?_ rfl
  simp only [Tryd.ntmps91, List.size_toArray, List.length_cons, List.length_nil, Nat.reduceAdd, Nat.reduceSub, Array.replicate_succ, Array.replicate_zero, List.push_toArray, List.append_toArray, List.nil_append, List.cons_append]
  have c1 : W.cell? ⟨pB, 0, none⟩ = some (.string ⟨#[10]⟩) := by rw [Lib.cell_of_heap hp1]; rfl
  gi_wp2
  clear c1
  gi_loopw [7, 8] (fun _ _ wr => SRel pB sB vB W.heap.size text J wr) (fun _ _ wr => strN sB wr)
  case atStart => exact ⟨[], text, rfl, ht, hs1, hp1, hv1, hJ0 _ _ (Nat.le_refl _) (Nat.le_refl _) (Below.refl _ _), Nat.le_refl _⟩
  case round =>
    obtain ⟨pre, rest, hcut, hrl, hs2, hp2, hv2, hJ, hsz⟩ := hrel
    clear hs1 hp1 hv1 hs hp hv
    have c1 : wr.cell? ⟨pB, 0, none⟩ = some (.string ⟨#[10]⟩) := by rw [Lib.cell_of_heap hp2]; rfl
    have c2 : wr.cell? ⟨sB, 0, none⟩ = some (.string ⟨rest.toArray⟩) := by rw [Lib.cell_of_heap hs2]; rfl
    have c3 : wr.cell? ⟨vB, 0, none⟩ = some (.int .i64 0) := by rw [Lib.cell_of_heap hv2]; rfl
    have f2 : wr.frozen? ⟨sB, 0, none⟩ = false := Lib.frozen_of_heap hs2 0
    have ki := Tryd.strings_Index_one ⟨rest.toArray⟩ 10 wr
    rcases cutL_at rest with ⟨h1, h2⟩ | ⟨i, h1, h2, h3⟩
    · rw [show (⟨rest.toArray⟩ : ByteArray).data.toList = rest from rfl, h1] at ki
      have i3 : decide ((-1 : Int) < 0) = true := by decide
      gi_wp2
      refine ⟨trivial, (fun h => by cases h), ?_⟩
      refine (callsIn_wide.2 ki).mono ?_
      rintro e w' ⟨rfl, hw'⟩
      subst hw'
      obtain ⟨f1, t1, a1, b1, hy1, hR1⟩ := hY W.heap.size pre rest w' (Nat.le_refl _) hsz ⟨[], by rw [hcut, h2]; simp⟩ hJ (n - 1)
      gi_wp2
      refine ⟨(fun h => by cases h), hR1.mono ?_⟩
      rintro e W3 ⟨rfl, hJ3, hsz3, hk3⟩
      gi_wp2
      go_end0
      exact ⟨⟨_, rfl⟩, W.heap.size, Nat.le_refl _, by rw [hcut, h2]; exact hJ3⟩
    · rw [show (⟨rest.toArray⟩ : ByteArray).data.toList = rest from rfl, h1] at ki
      have i1 : (0 : Int) ≤ (i : Int) := by omega
      have i2 : (i : Int) ≤ (rest.length : Int) := by omega
      have i3 : decide ((i : Int) < 0) = false := decide_eq_false (by omega)
      have i4 : (i : Int) + 1 ≤ (rest.length : Int) := by omega
      have i5 : (i : Int) ≤ 1000000000 := by omega
      gi_wp2
      refine ⟨trivial, (fun h => by cases h), ?_⟩
      refine (callsIn_wide.2 ki).mono ?_
      rintro e w' ⟨rfl, hw'⟩
      subst hw'
      obtain ⟨f1, t1, a1, b1, hy1, hR1⟩ := hY W.heap.size pre (rest.take i) w' (Nat.le_refl _) hsz ⟨cutL (rest.drop (i + 1)), by rw [hcut, h3]; simp⟩ hJ (n - 1)
      rw [← ext_take] at hy1
      gi_wp2
      refine ⟨(fun h => by cases h), hR1.mono ?_⟩
      rintro e W3 ⟨rfl, hJ3, hsz3, hk3⟩
      have hs3 := (hk3 sB (.inl (.inr (.inr (.inl rfl))))).trans hs2
      have hp3 := (hk3 pB (.inl (.inr (.inl rfl)))).trans hp2
      have hv3 := (hk3 vB (.inl (.inr (.inr (.inr rfl))))).trans hv2
      clear c1 c2 c3 f2
      have c1 : W3.cell? ⟨pB, 0, none⟩ = some (.string ⟨#[10]⟩) := by rw [Lib.cell_of_heap hp3]; rfl
      have c2 : W3.cell? ⟨sB, 0, none⟩ = some (.string ⟨rest.toArray⟩) := by rw [Lib.cell_of_heap hs3]; rfl
      have f2 : W3.frozen? ⟨sB, 0, none⟩ = false := Lib.frozen_of_heap hs3 0
      gi_wp2
      rw [ext_drop]
      have ho := Outside.put3 W3 sB (.string ⟨(rest.drop (i + 1)).toArray⟩) (Mine W.heap.size W.heap.size fun k => k = pB ∨ k = sB ∨ k = vB) (.inr (.inr (.inl rfl)))
      have hs4 := setCell_one (u := .string ⟨(rest.drop (i + 1)).toArray⟩) hs3
      refine ⟨⟨pre ++ [rest.take i], rest.drop (i + 1), by rw [hcut, h3]; simp, by simp; omega, hs4, (Below.heap_setCell W3 ⟨sB, 0, none⟩ _ pB hps).trans hp3, (Below.heap_setCell W3 ⟨sB, 0, none⟩ _ vB hvs).trans hv3, hJc _ _ _ _ (Nat.le_refl _) hJ3 ho, Nat.le_trans hsz (Nat.le_trans hsz3 ho.size)⟩, ?_⟩
      rw [strN_at hs4, strN_at hs2, List.length_drop]
      omega
end Go.Proofs.YtehpdodjncabkaaDoor
