/- A range over a function whose iterator turns cells of its own between two rounds, and always goes on. -/
import Derived.Test.YtehpdodjncabkaaDoorBase
import Derived.RangeFuncNested
import Derived.RangeFuncBound
import Derived.RangeFuncCalls
import Derived.RangeFuncLeaves
namespace Go.Proofs.YtehpdodjncabkaaDoor
open Go.RowKit Go.Lib

/-- What lies outside T lies as it lay. -/
structure Outside (T : Nat → Prop) (w w' : World) : Prop where
  os : w'.os = w.os
  tape : w'.tape = w.tape
  output : w'.output = w.output
  size : w.heap.size ≤ w'.heap.size
  block : ∀ k, k < w.heap.size → ¬ T k → w'.heap[k]? = w.heap[k]?
theorem Outside.put {T : Nat → Prop} (w : World) (l : Nat) (o : Obj) (h : T l) : Outside T w (w.putObj l o) :=
  ⟨rfl, rfl, rfl, Nat.le_of_eq (by simp), fun k _ hk => World.putObj_heap_other (fun e => hk (e ▸ h))⟩
theorem Outside.mono {T T' : Nat → Prop} {w w' : World} (h : Outside T w w') (hT : ∀ k, T k → T' k) : Outside T' w w' := ⟨h.os, h.tape, h.output, h.size, fun k hk hn => h.block k hk (fun e => hn (hT k e))⟩
theorem Outside.of_below {T : Nat → Prop} {w w' : World} (h : Below w.heap.size w w') : Outside T w w' := ⟨h.os, h.tape, h.output, h.size, fun k hk _ => h.block k hk⟩
theorem Outside.trans {T : Nat → Prop} {a b c : World} (h : Outside T a b) (k : Outside T b c) : Outside T a c :=
  ⟨k.os.trans h.os, k.tape.trans h.tape, k.output.trans h.output, Nat.le_trans h.size k.size, fun j hj hn => (k.block j (Nat.lt_of_lt_of_le hj h.size) hn).trans (h.block j hj hn)⟩
def Yd (P : Program) (l : Nat) (args : Array Value) (W : World) (R : Ending → World → Prop) : Prop := ∀ m, YieldAt Fence.wide m P l args W R
/-- The blocks of the iterator's own. -/
def Mine (lo hi : Nat) (E : Nat → Prop) (k : Nat) : Prop := (lo ≤ k ∧ k < hi) ∨ E k
/-- Function g, with what it has captured, hands out xs, one behind the other, to a yield that always goes on. -/
def Gives {α : Type} (P : Program) (g : Nat) (lb : Array Value) (encs : α → Array Value) (E G : Nat → Prop) (xs : List α) (w : World) : Prop :=
  ∀ (l : Nat) (J : Nat → List α → World → Prop) (W : World), Below w.heap.size w W →
    (∀ hi W', W.heap.size ≤ hi → hi ≤ W'.heap.size → Below W.heap.size W W' → J hi [] W') →
    (∀ hi pre W1 W2, W.heap.size ≤ hi → J hi pre W1 → Outside (Mine W.heap.size hi E) W1 W2 → J hi pre W2) →
    (∀ hi pre x W1, W.heap.size ≤ hi → hi ≤ W1.heap.size → pre ++ [x] <+: xs → J hi pre W1 → Yd P l (encs x) W1 fun e W' =>
      e = .returned (.bool true) ∧ J hi (pre ++ [x]) W' ∧ W1.heap.size ≤ W'.heap.size ∧ ∀ k, Mine W.heap.size hi E k ∨ G k → W'.heap[k]? = W1.heap[k]?) →
    ∀ n, CallsIn Fence.wide n P g (#[.func (.yield l) #[] #[]] ++ lb) W fun e W' => (∃ v, e = .returned v) ∧ ∃ hi, W.heap.size ≤ hi ∧ J hi xs W'
def onPost (R : World → Prop) : Exit → Act → World → Prop
  | .normal, _, W => R W
  | _, _, _ => False
theorem range_gives {α : Type} {P : Program} {n : Nat} {g : Operand} {ps : Array Tmp} {assign body : Code} {Q : Exit → Act → World → Prop} {a : Act} {w : World}
    (h1 : 1 ≤ n) {gf : Nat} {lb : Array Value} (hg : a.eval g = .func (.func gf) #[] lb) (eg : ∀ args w, (callFunc gf args).run P w = .ok (.enter gf args) w)
    {encs : α → Array Value} {E G : Nat → Prop} {xs : List α} {w0 : World} (hseq : Gives P gf lb encs E G xs w0) (hb0 : Below w0.heap.size w0 w) (hE : ∀ k, E k → k < w.heap.size) (hG : ∀ k, G k → k < w.heap.size) (hps : ∀ x, (encs x).size = ps.size)
    (I : Nat → List α → World → Prop)
    (hI0 : ∀ hi W', w.heap.size + 2 ≤ hi → hi ≤ W'.heap.size → Below w.heap.size w W' → I hi [] W')
    (hIc : ∀ hi pre W1 W2, w.heap.size + 2 ≤ hi → I hi pre W1 → Outside (Mine w.heap.size hi E) W1 W2 → I hi pre W2)
    (Ax : Nat → List α → α → Act → World → Prop) (hAc : ∀ hi pre x a' W1 W2, w.heap.size + 2 ≤ hi → Ax hi pre x a' W1 → Outside (Mine w.heap.size hi E) W1 W2 → Ax hi pre x a' W2)
    (hassign : ∀ m hi pre x W (K : Act → World → Prop), w.heap.size + 2 ≤ hi → hi ≤ W.heap.size → pre ++ [x] <+: xs → I hi pre W →
      (∀ a' W', Ax hi pre x a' W' → W.heap.size ≤ W'.heap.size → (∀ k, Mine w.heap.size hi E k ∨ G k → W'.heap[k]? = W.heap[k]?) → K a' W') →
      assign.wpIn (Fence.wide.inRound (w.heap.size + 1)) m P (Exit.then K (fun _ _ _ => False)) { tmps := (ps.zip (encs x)).foldl (fun t (p, v) => t.setIfInBounds p v) a.tmps, defers := [] } W)
    (hbody : ∀ m hi pre x a' W, w.heap.size + 2 ≤ hi → hi ≤ W.heap.size → pre ++ [x] <+: xs → Ax hi pre x a' W →
      body.wpIn (Fence.wide.inRound (w.heap.size + 1)) m P (onPost (fun W' => I hi (pre ++ [x]) W' ∧ W.heap.size ≤ W'.heap.size ∧ ∀ k, Mine w.heap.size hi E k ∨ G k → W'.heap[k]? = W.heap[k]?)) a' W)
    (hdone : ∀ hi W, w.heap.size + 2 ≤ hi → I hi xs W → W.heap[w.heap.size]? = some (.deferred (some [])) → Q .normal { a with defers := { target := .collected w.heap.size, args := #[] } :: a.defers } W) :
    (Code.rangeFunc g ps assign body).wpIn Fence.wide n P Q a w := by
  refine wpIn_rangeFunc ?_
  intro fn hfn
  rw [show Fence.wide.round = none from rfl]
  obtain ⟨rec, hrec⟩ : ∃ rec : LoopState → Loop, rec = fun st => { state := st, pending := none, fn, tmps := a.tmps, params := ps, assign, body, defers := w.heap.size } := ⟨_, rfl⟩
  obtain ⟨W1, hW1⟩ : ∃ W1, (w.alloc (.deferred (some []))).alloc (.loop (rec .ready)) = W1 := ⟨_, rfl⟩
  have hsz : W1.heap.size = w.heap.size + 2 := by rw [← hW1]; simp
  have hL1 : W1.heap[w.heap.size + 1]? = some (.loop (rec .ready)) := by
    rw [← hW1]; have := World.alloc_heap_new (w.alloc (.deferred (some []))) (.loop (rec .ready)); rwa [World.size_alloc] at this
  have hK1 : W1.heap[w.heap.size]? = some (.deferred (some [])) := by
    rw [← hW1]; exact (Below.heap_alloc _ _ _ (by simp)).trans (World.alloc_heap_new w _)
  have hbw : Below w.heap.size w W1 := by
    rw [← hW1]; exact ((Below.refl _ w).alloc (Nat.le_refl _) _).alloc (by simp) _
  refine ⟨w.heap.size + 1, [{ target := .collected w.heap.size, args := #[] }], W1, { target := .fn (.func gf) lb, args := #[.func (.yield (w.heap.size + 1)) #[] #[]] }, W1, gf,
    #[.func (.yield (w.heap.size + 1)) #[] #[]] ++ lb, W1, ?_, ?_, ?_, ?_, fun _ => h1, ?_⟩
  · rw [← hW1, hrec]; exact run_enterLoop_outer _ _ _ _ _
  · simp only [resolve, hg]
    simp [go_sem]
  · intro _ _; trivial
  · simp [invoke, go_sem, eg]
  · have hsub : ∀ hi k, Mine W1.heap.size hi E k → Mine w.heap.size hi E k := fun hi k h => by
      rcases h with h | h
      · exact .inl ⟨by omega, h.2⟩
      · exact .inr h
    have hnot : ∀ hi k, w.heap.size ≤ k → k < w.heap.size + 2 → ¬ Mine W1.heap.size hi E k := fun hi k h1 h2 h => by
      rcases h with h | h
      · omega
      · have := hE k h; omega
    refine (hseq (w.heap.size + 1)
      (fun hi pre W => I hi pre W ∧ W.heap[w.heap.size + 1]? = some (.loop (rec .ready)) ∧ W.heap[w.heap.size]? = some (.deferred (some [])))
      W1 (hb0.trans (hbw.mono hb0.size)) ?_ ?_ ?_ (n - 1)).mono ?_
    · intro hi W' h2 h3 hb
      exact ⟨hI0 hi W' (by omega) h3 (hbw.trans (hb.mono hbw.size)), (hb.block _ (by omega)).trans hL1, (hb.block _ (by omega)).trans hK1⟩
    · rintro hi pre Wa Wb hhi ⟨hi1, hl, hk⟩ ho
      have hlt := (Array.getElem?_eq_some_iff.1 hl).1
      exact ⟨hIc hi pre Wa Wb (by omega) hi1 (ho.mono (hsub hi)), (ho.block _ hlt (hnot hi _ (by omega) (by omega))).trans hl, (ho.block _ (by omega) (hnot hi _ (by omega) (by omega))).trans hk⟩
    · rintro hi pre x W hhi hhW hpx ⟨hi1, hl, hk⟩ m
      rw [hsz] at hhi
      have hlt := (Array.getElem?_eq_some_iff.1 hl).1
      have hy := run_yield (P := P) (args := encs x) hl (by rw [hrec]; exact hps x)
      rw [hrec] at hy
      refine ⟨fn, _, assign, body, hy, roundIn_of_wpIn hfn (hassign m hi pre x W _ hhi hhW hpx hi1 ?_)⟩
      clear hy
      intro a' Wa hax hsa hTa
      have hMl : Mine w.heap.size hi E (w.heap.size + 1) := .inl ⟨by omega, by omega⟩
      have hMd : Mine w.heap.size hi E w.heap.size := .inl ⟨Nat.le_refl _, by omega⟩
      have hla := (hTa _ (.inl hMl)).trans hl
      have hka := (hTa _ (.inl hMd)).trans hk
      have hlta := (Array.getElem?_eq_some_iff.1 hla).1
      refine ⟨_, run_beginRound hla (by rw [hrec]), ?_⟩
      have hl2 : (Wa.putObj (w.heap.size + 1) (.loop { rec .ready with state := .busy })).heap[w.heap.size + 1]? = some (.loop { rec .ready with state := .busy }) := World.putObj_heap_same hlta
      have hk2 : (Wa.putObj (w.heap.size + 1) (.loop { rec .ready with state := .busy })).heap[w.heap.size]? = some (.deferred (some [])) := (World.putObj_heap_other (by omega)).trans hka
      have hax2 := hAc hi pre x a' _ _ hhi hax (Outside.put Wa (w.heap.size + 1) (.loop { rec .ready with state := .busy }) hMl)
      refine wpIn_mono (hbody m hi pre x a' _ hhi (by simp; omega) hpx hax2) ?_
      rintro e a3 W3 hp
      cases e with
      | normal =>
        obtain ⟨hi3, hs3, hT3⟩ := hp
        have hl3 := (hT3 _ (.inl hMl)).trans hl2
        have hk3 := (hT3 _ (.inl hMd)).trans hk2
        have hlt3 := (Array.getElem?_eq_some_iff.1 hl3).1
        have hend := run_endRound (P := P) none hl3
        refine ⟨_, _, hend, rfl, ⟨hIc hi _ _ _ hhi hi3 (Outside.put _ _ _ hMl), ?_, (World.putObj_heap_other (by omega)).trans hk3⟩, ?_, fun k hk' => ?_⟩
        · rw [World.putObj_heap_same hlt3, hrec]; rfl
        · simp at hs3 ⊢; omega
        · have hkne : k ≠ w.heap.size + 1 := fun e => by
            rcases hk' with hk' | hk'
            · exact hnot hi k (by omega) (by omega) hk'
            · have := hG k hk'
              omega
          have hk2' : Mine w.heap.size hi E k ∨ G k := hk'.imp (hsub hi k) id
          rw [World.putObj_heap_other hkne, hT3 k hk2', World.putObj_heap_other hkne, hTa k hk2']
      | ret => exact hp.elim
      | exit id => exact hp.elim
      | goto t => exact hp.elim
      | panic ch => exact hp.elim
      | outgrown => exact hp.elim
    · rintro e W2 ⟨⟨v, rfl⟩, hi, hhi, hi1, hl, hk⟩
      have hlt := (Array.getElem?_eq_some_iff.1 hl).1
      refine ⟨none, _, by have := run_endLoop (P := P) hl (by rw [hrec]; simp); rw [hrec] at this; exact this, hdone hi _ (by omega) (hIc hi _ _ _ (by omega) hi1 (Outside.put _ _ _ (.inl ⟨by omega, by omega⟩))) ((World.putObj_heap_other (by omega)).trans hk)⟩
end Go.Proofs.YtehpdodjncabkaaDoor
