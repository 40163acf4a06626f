/- PlainSw, ReO, ReP, SmA. -/
import Derived.Deep.QuietTactic
import Derived.Test.YthjaiigijbjloaaGreatDoorT21
namespace Go.Proofs.YthjaiigijbjloaaGreatDoor
open Go.RowKit Go.Lib
set_option maxRecDepth 100000
set_option maxHeartbeats 16000000
theorem fx {e : El} {c t : Int} {s : List UInt8} (h : dK e c t = some s) : s.length ≤ cW e := by
 have := (Le.txt h).1;simp only [cW] at this
 omega
theorem dB {e : El} {c t : Int} {ks : List El} (h : ci e c t = some ks) : bD ks ≤ cW e := by
 unfold ci at h
 split at h
 ·cases h
  cases e;simp only [cW, El.kids]
  omega
 ·cases h
theorem dp {α : Type} {g : El → Option α} {l : List El} {y : α × List El} (h : bS g l = some y) : ∃ e, g e = some y.1 ∧ cW e ≤ bD l ∧ bD y.2 ≤ bD l := by
 cases l with
 | nil => simp [bS, ch] at h
 | cons e t =>
  simp only [bS, ch, ai, aC] at h;obtain ⟨a, ha, rfl⟩ := h;exact ⟨e, ha, by simp only [bD]; omega, by simp only [bD]; omega⟩
theorem dc {l : List El} {y : List UInt8 × List El} (h : cg l = some y) : y.1.length ≤ bD l ∧ bD y.2 ≤ bD l := by
 obtain ⟨e, h1, h2, h3⟩ := dp h;exact ⟨Nat.le_trans (fx h1) h2, h3⟩
theorem fb {t : Int} {l : List El} {y : Int × List El} (h : em t l = some y) : bD y.2 ≤ bD l := by
 obtain ⟨e, h1, h2, h3⟩ := dp h;exact h3
theorem jk {l : List El} {y : Bool × List El} (h : fm l = some y) : bD y.2 ≤ bD l := by
 obtain ⟨e, h1, h2, h3⟩ := dp h;exact h3
theorem gL {t : Int} {l : List El} {y : (List UInt8 × Bool) × List El} (h : ea t l = some y) : y.1.1.length ≤ bD l ∧ bD y.2 ≤ bD l := by
 unfold ea at h
 split at h
 ·simp only [aC] at h
  obtain ⟨x, hx, rfl⟩ := h;obtain ⟨e, h1, h2, h3⟩ := dp hx;exact ⟨Nat.le_trans (fx h1) h2, h3⟩
 ·cases h
  exact ⟨by simp, ah _⟩
theorem jl : ∀ {l : List El} {ss : List (List UInt8)}, dN l = some ss → ss.length ≤ bD l ∧ ∀ s ∈ ss, s.length ≤ bD l
 | [], ss, h => by simp only [dN, Option.some.injEq] at h; subst h; simp
 | e :: r, ss, h => by
  simp only [dN, ax, aC] at h;obtain ⟨s, h1, t, h2, rfl⟩ := h;have q1 := fx h1;have q2 := jl h2;have q3 := iK e;simp only [bD, aG, aY];refine ⟨by omega, fun x hx => ?_⟩;rcases hx with rfl | hx
  ·omega
  ·have := q2.2 x hx; omega
theorem lv {e : El} {x : List UInt8 × List (List UInt8)} (h : dO e = some x) : x.1.length ≤ cW e ∧ x.2.length ≤ cW e ∧ ∀ s ∈ x.2, s.length ≤ cW e := by
 simp only [dO, ax] at h;obtain ⟨ks, h1, a, h2, b, h3, vs, h4, h5⟩ := h;obtain ⟨rfl, _⟩ := bY h5;have q1 := dB h1;have q2 := dc h2;obtain ⟨e3, g1, g2, g3⟩ := dp h3;have q4 := dB g1;have q5 := jl h4;exact ⟨by simp only; omega, by simp only; omega, fun s hs => by have := q5.2 s hs; omega⟩
theorem iM {α : Type} {g : El → Option α} : ∀ {l : List El} {xs : List α}, dC g l = some xs → xs.length ≤ bD l ∧ ∀ x ∈ xs, ∃ e, g e = some x ∧ cW e ≤ bD l
 | [], xs, h => by simp only [dC, Option.some.injEq] at h; subst h; simp
 | e :: r, xs, h => by
  simp only [dC, ax, aC] at h;obtain ⟨s, h1, t, h2, rfl⟩ := h;have q2 := iM h2;have q3 := iK e;simp only [bD, aG, aY];refine ⟨by omega, fun x hx => ?_⟩;rcases hx with rfl | hx
  ·exact ⟨e, h1, by omega⟩
  ·obtain ⟨e', g1, g2⟩ := q2.2 x hx
   exact ⟨e', g1, by omega⟩
theorem rZ {e : El} {x : Md} (h : ft e = some x) : x.2.1.length ≤ cW e ∧ x.2.2.length ≤ cW e ∧ ∀ s ∈ x.2.2, s.length ≤ cW e := by
 simp only [ft, ax] at h;obtain ⟨ks, h1, n, h2, a, h3, h5⟩ := h;obtain ⟨rfl, _⟩ := bY h5;have q1 := dB h1;have q2 := fb h2;obtain ⟨e3, g1, g2, g3⟩ := dp h3;have q4 := lv g1;exact ⟨by simp only; omega, by simp only; omega, fun s hs => by have := q4.2.2 s hs; omega⟩
theorem sa {e : El} {c : Ct} (h : eR e = some c) : c.oid.length ≤ cW e ∧ c.value.length ≤ cW e := by
 simp only [eR, ax] at h;obtain ⟨ks, h1, o, h2, b, h3, v, h4, h5⟩ := h;obtain ⟨rfl, _⟩ := bY h5;have q1 := dB h1;have q2 := dc h2;have q3 : bD b.2 ≤ bD o.2 := by
  split at h3
  ·exact jk h3
  ·cases h3; exact ah _
 have q4 : v.1.1.length ≤ bD b.2 := by
  split at h4
  ·cases h4; simp
  ·simp only [aC] at h4
   obtain ⟨s, hs, rfl⟩ := h4;exact (dc hs).1
 exact ⟨by simp only; omega, by simp only; omega⟩
theorem kD {t : Int} {l : List El} {y : List UInt8 × List El} (h : df t l = some y) : y.1.length ≤ bD l ∧ bD y.2 ≤ bD l := by
 simp only [df, ax] at h;obtain ⟨s, h1, h2⟩ := h
 split at h2
 ·cases h2
 ·cases h2
  obtain ⟨e, g1, g2, g3⟩ := dp h1;exact ⟨Nat.le_trans (fx g1) g2, g3⟩
theorem ly : ∀ {n : Nat} {l : List El} {y : List (List UInt8) × List El}, dT n l = some y → y.1.length ≤ n ∧ (∀ s ∈ y.1, s.length ≤ bD l) ∧ bD y.2 ≤ bD l
 | 0, l, y, h => by simp only [dT, Option.some.injEq] at h; subst h; simp
 | n + 1, l, y, h => by
  simp only [dT] at h
  split at h
  ·simp only [ax, aC] at h
   obtain ⟨s, h1, x, h2, rfl⟩ := h;have q1 := kD h1;have q2 := ly h2;simp only [aG, aY];refine ⟨by omega, fun z hz => ?_, by omega⟩;rcases hz with rfl | hz
   ·exact q1.1
   ·have := q2.2.1 z hz; omega
  ·cases h
   simp
theorem lz {t : Int} {l : List El} {y : List UInt8 × List El} (h : (if da 2 t l then df t l else some ([], l)) = some y) : y.1.length ≤ bD l ∧ bD y.2 ≤ bD l := by
 split at h
 ·exact kD h
 ·cases h
  simp
theorem nJ {l : List El} {x : List UInt8 × List (List UInt8) × List UInt8} (h : eC l = some x) : x.1.length ≤ bD l ∧ x.2.1.length ≤ bD l ∧ (∀ s ∈ x.2.1, s.length ≤ bD l) ∧ x.2.2.length ≤ bD l := by
 simp only [eC, ax] at h;obtain ⟨i, h1, a, h2, f, h3, h5⟩ := h;obtain ⟨rfl, _⟩ := bY h5;have q1 := lz h1;have q2 := ly h2;have q3 := lz h3;have q4 := iL i.2;exact ⟨q1.1, by simp only; omega, fun s hs => by have := q2.2.1 s hs; omega, by simp only; omega⟩
def Fl.le (N : Nat) (p : Fl) : Prop := p.typ.length ≤ N ∧ p.value.length ≤ N ∧ p.init.length ≤ N ∧ p.final.length ≤ N ∧ p.any.length ≤ N ∧ (∀ s ∈ p.any, s.length ≤ N) ∧ p.n ≤ N
theorem Fl.le.mono {N M : Nat} {p : Fl} (h : p.le N) (k : N ≤ M) : p.le M := by
 obtain ⟨h1, h2, h3, h4, h5, h6, h7⟩ := h;exact ⟨by omega, by omega, by omega, by omega, by omega, fun s hs => Nat.le_trans (h6 s hs) k, by omega⟩
theorem lS {c t : Int} {k : Bool} {b : List UInt8} {ks : List El} {f : List Fl} (h : dA (.mk c t k b ks) = some f) (h2 : ¬ (t = 0 ∨ t = 1 ∨ t = 2)) : ∃ p, f = [p] ∧ p.le (cW (.mk c t k b ks)) := by
 simp only [dA, h2, if_false] at h
 split at h
 ·rename_i h7
  subst h7;simp only [aC] at h;obtain ⟨s, h1, rfl⟩ := h;exact ⟨_, rfl, fx h1, by simp, by simp, by simp, by simp, by simp, by simp⟩
 ·split at h
  ·rename_i h4
   subst h4;simp only [ax] at h;obtain ⟨r, h1, a, h3, p, h4, x, h5, h6⟩ := h;obtain ⟨rfl, _⟩ := bY h6;have q1 := dB h1;have q2 := dc h3;obtain ⟨e, g1, g2, g3⟩ := dp h4;have q4 := dB g1;have q5 := nJ h5;exact ⟨_, rfl, by simp only; omega, by simp, by simp only; omega, by simp only; omega, by simp only; omega, fun s hs => by have := q5.2.2.1 s hs; omega, by simp⟩
  ·simp only [ax] at h
   obtain ⟨r, h1, a, h3, v, h5, h6⟩ := h;obtain ⟨rfl, _⟩ := bY h6;have q1 := dB h1;have q2 := dc h3;have q3 := dc h5;exact ⟨_, rfl, by simp only; omega, by simp only; omega, by simp, by simp, by simp, by simp, by simp⟩
mutual
theorem mF : ∀ (el : El) (f : List Fl), dA el = some f → f.length ≤ cW el ∧ ∀ p ∈ f, p.le (cW el)
 | .mk c t k b ks, f, h => by
  have h0 := iK (.mk c t k b ks)
  by_cases h2 : t = 0 ∨ t = 1 ∨ t = 2
  ·simp only [dA, h2, if_true] at h
   split at h
   ·simp only [aC] at h
    obtain ⟨g, hg, rfl⟩ := h;have q := lA ks g hg;have q1 : bD ks + 2 ≤ cW (.mk c t k b ks) := by have := mz (b.length + bD ks); simp only [cW]; omega
    have q2 := iL ks;refine ⟨by simp only [aG]; omega, fun p hp => ?_⟩;simp only [aY] at hp;rcases hp with rfl | hp
    ·exact ⟨by simp, by simp, by simp, by simp, by simp, by simp, by simp only; omega⟩
    ·exact (q.2 p hp).mono (by omega)
   ·cases h
  ·obtain ⟨p, rfl, hp⟩ := lS h h2
   exact ⟨by simp only [aG, aU]; omega, fun q hq => by simp only [List.mem_singleton] at hq; subst hq; exact hp⟩
theorem lA : ∀ (ks : List El) (f : List Fl), en ks = some f → f.length ≤ bD ks ∧ ∀ p ∈ f, p.le (bD ks)
 | [], f, h => by simp only [en, Option.some.injEq] at h; subst h; simp
 | e :: s, f, h => by
  simp only [en, ax, aC] at h;obtain ⟨a, ha, g, hg, rfl⟩ := h;have q1 := mF e a ha;have q2 := lA s g hg;simp only [bD, bd, List.mem_append];refine ⟨by omega, fun p hp => ?_⟩;rcases hp with hp | hp
  ·exact (q1.2 p hp).mono (by omega)
  ·exact (q2.2 p hp).mono (by omega)
end
theorem tc {f : List Fl} {N : Nat} (hN : N ≤ 1000000) (h : f.length ≤ N ∧ ∀ p ∈ f, p.le N) : eP f :=
 ⟨by omega, fun p hp => by
  obtain ⟨h1, h2, h3, h4, h5, h6, h7⟩ := h.2 p hp;exact ⟨⟨by omega, by omega, by omega, by omega, by omega, fun s hs => by have := h6 s hs; omega⟩, by omega⟩⟩
theorem dF : eP [] := ⟨by simp, by simp⟩
theorem dx : pD [] := ⟨by simp, by simp⟩
theorem vp {id op : Int} {ks rest : List El} {m : Mg} {l : Ls} (h : oDo id op ks = some ((m, l), rest)) (hN : bD ks ≤ 1000000) : LsOk m l := by
 have key : ∀ {p : Prop} [Decidable p] {a b : Option ((Mg × Ls) × List El)}, (a = some ((m, l), rest) → LsOk m l) → (b = some ((m, l), rest) → LsOk m l) → ((if p then a else b) = some ((m, l), rest) → LsOk m l) := fun ha hb h => by split at h; exact ha h; exact hb h
 have hadd : ∀ o, fh id o ks = some ((m, l), rest) → LsOk m l := by
  intro o h;simp only [fh, ax, aC] at h;obtain ⟨d, h1, x, h2, h⟩ := h;cases h;have q1 := dc h1;obtain ⟨e, g1, g2, g3⟩ := dp h2;simp only [eA, ax] at g1;obtain ⟨ks', g4, g5⟩ := g1;have q2 := dB g4;have q3 := iM g5;refine ⟨by simp only; omega, by simp, by simp, by simp, by simp, by simp, by simp, by simp, by simp, dF, by simp, by simp, by simp, by simp, ⟨by simp only; omega, fun y hy => ?_⟩, by simp, by simp⟩;obtain ⟨e', g6, g7⟩ := q3.2 y hy;have q4 := lv g6;exact ⟨by omega, by omega, fun s hs => by have := q4.2.2 s hs; omega⟩
 revert h
 unfold oDo;refine key (fun h => ?_) (key (fun h => ?_) (key (fun h => ?_) (key (fun h => hadd 8 h) (key (fun h => hadd 4 h) (key (fun h => ?_) (key (fun h => ?_) (key (fun h => ?_) (key (fun h => ?_) (fun h => ?_)))))))))
 ·simp only [gU, ax] at h
  obtain ⟨v, h1, d, h2, s, h3, h⟩ := h;have q1 := fb h1;have q2 := dc h2;have q3 := gL h3
  split at h
  ·cases h
   exact ⟨by simp only; omega, by simp only; omega, by simp, by simp, by simp, by simp, by simp, by simp, by simp, dF, by simp, by simp, by simp, by simp, dx, by simp, by simp⟩
  ·simp only [ax] at h
   obtain ⟨k, h4, t, h5, z, h6, h7⟩ := h;cases (bY h7).1;obtain ⟨e, g1, g2, g3⟩ := dp h4;have q4 := dB g1;have q5 := dc h5;exact ⟨by simp only; omega, by simp only; omega, by simp, by simp, by simp, by simp, by simp, by simp, by simp, dF, by simp, by simp, by simp, by simp, dx, by simp, by simp⟩
 ·simp only [fG, ax, aC] at h
  obtain ⟨d, h1, s, h2, r, h4, z, h5, t, h6, y, h7, f, h8, k, h9, a, h10, h⟩ := h;cases h;have q1 := dc h1;have q2 := fb h2;have q3 := fb h4;have q4 := fb h5;have q5 := fb h6;have q6 := jk h7;obtain ⟨e, g1, g2, g3⟩ := dp h8;have q7 := mF e _ g1;obtain ⟨e2, g4, g5, g6⟩ := dp h9;have q8 := dB g4;have q9 := jl h10;exact ⟨by simp only; omega, by simp, by simp, by simp, by simp, by simp, by simp, by simp, by simp, tc (by omega) q7, by simp only; omega, fun s hs => by have := q9.2 s hs; omega, by simp, by simp, dx, by simp, by simp⟩
 ·simp only [fH, ax, aC] at h
  obtain ⟨d, h1, x, h2, h⟩ := h;cases h;have q1 := dc h1;obtain ⟨e, g1, g2, g3⟩ := dp h2;simp only [eA, ax] at g1;obtain ⟨ks', g4, g5⟩ := g1;have q2 := dB g4;have q3 := iM g5;refine ⟨by simp only; omega, by simp, by simp, by simp, by simp, by simp, by simp, by simp, by simp, dF, by simp, by simp, by simp only; omega, fun y hy => ?_, dx, by simp, by simp⟩;obtain ⟨e', g6, g7⟩ := q3.2 y hy;have q4 := rZ g6;exact ⟨by omega, by omega, fun s hs => by have := q4.2.2 s hs; omega⟩
 ·simp only [gV, ax, aC] at h
  obtain ⟨d, h1, n, h2, y, h5, s, h7, h⟩ := h;cases h;have q1 := dc h1;have q2 := dc h2;have q3 := jk h5;have q4 := gL h7;exact ⟨by simp only; omega, by simp, by simp only; omega, by simp only; omega, by simp, by simp, by simp, by simp, by simp, dF, by simp, by simp, by simp, by simp, dx, by simp, by simp⟩
 ·simp only [eZ, ax] at h
  obtain ⟨d, h1, k, h2, t, h5, v, h7, h⟩ := h;cases (bY h).1;have q1 := dc h1;obtain ⟨e, g1, g2, g3⟩ := dp h2;have q2 := dB g1;have q3 := dc h5;have q4 := dc h7;exact ⟨by simp only; omega, by simp, by simp, by simp, by simp only; omega, by simp only; omega, by simp, by simp, by simp, dF, by simp, by simp, by simp, by simp, dx, by simp, by simp⟩
 ·simp only [fI, ax, aC] at h
  obtain ⟨o, h1, v, h7, h⟩ := h;cases h;obtain ⟨e, g1, g2, g3⟩ := dp h1;have q2 := fx g1;have q3 := gL h7;exact ⟨by simp, by simp, by simp, by simp, by simp, by simp only; omega, by simp only; omega, by simp, by simp, dF, by simp, by simp, by simp, by simp, dx, by simp, by simp⟩
 ·simp only [dI, ax] at h
  obtain ⟨c, h1, a, h2, t, h5, h⟩ := h;have q1 := fb h1;have q2 := dc h2;have q3 := dc h5
  split at h
  ·simp only [ax] at h
   obtain ⟨o, h7, h⟩ := h;have q4 := gL h7
   split at h
   ·cases h
   ·simp only [aC] at h
    obtain ⟨v, h9, h⟩ := h;have q5 := gL h9;cases h;exact ⟨by simp, by simp, by simp, by simp, by simp, by simp only; omega, by simp only; omega, by simp only; omega, by simp only; omega, dF, by simp, by simp, by simp, by simp, dx, by simp, by simp⟩
  ·cases h
   exact ⟨by simp, by simp, by simp, by simp, by simp, by simp, by simp, by simp only; omega, by simp only; omega, dF, by simp, by simp, by simp, by simp, dx, by simp, by simp⟩
 ·cases h
theorem vq {id : Int} {e : El} {x : Mg × Ls} (h : oOp id e = some x) (hN : cW e ≤ 1000000) : LsOk x.1 x.2 := by
 unfold oOp at h
 split at h
 ·simp only [ax] at h
  obtain ⟨s, h1, h⟩ := h
  split at h
  ·cases h
   exact ⟨by simp, by simp, by simp, by simp, by simp, by simp, by simp, by simp, by simp, dF, by simp, by simp, by simp, by simp, dx, by simp, by simp⟩
  ·cases h
 ·split at h
  ·simp only [aC] at h
   obtain ⟨s, h1, h⟩ := h;have q := fx h1;cases h;exact ⟨by simp only; omega, by simp, by simp, by simp, by simp, by simp, by simp, by simp, by simp, dF, by simp, by simp, by simp, by simp, dx, by simp, by simp⟩
  ·split at h
   ·simp only [aC] at h
    obtain ⟨s, h1, h⟩ := h;cases h;exact ⟨by simp, by simp, by simp, by simp, by simp, by simp, by simp, by simp, by simp, dF, by simp, by simp, by simp, by simp, dx, by simp, by simp⟩
   ·simp only [ax] at h
    obtain ⟨r, h1, y, h3, h4⟩ := h;have q := dB h1;obtain ⟨e1, _⟩ := bY h4;obtain ⟨y1, y2⟩ := y;simp only at e1;subst e1;exact vp h3 (by omega)
theorem kQ {e : El} {m : Mg} {l : Ls} (h : dU e = some (m, l)) (hN : cW e ≤ 1000000) : LsOk m l := by
 simp only [dU, ax] at h;obtain ⟨r, h1, n, h2, x, h3, h⟩ := h;have q1 := dB h1;have q2 := fb h2;obtain ⟨e3, g1, g2, g3⟩ := dp h3;have q3 := vq g1 (by omega)
 split at h
 ·simp only [ax] at h
  obtain ⟨c, h4, h5⟩ := h;cases (bY h5).1;obtain ⟨e4, g4, g5, g6⟩ := dp h4;simp only [ax] at g4;obtain ⟨k, g7, g8⟩ := g4;have q4 := dB g7;have q5 := iM g8;exact { q3 with
   ctl := by simp only; omega
   ctls := fun y hy => by
    obtain ⟨e', g9, g10⟩ := q5.2 y hy;have q6 := sa g9;exact ⟨by omega, by omega⟩ }
 ·obtain ⟨e1, _⟩ := bY h
  rw [e1] at q3;exact q3
theorem LsOk.pl {m : Mg} {l : Ls} (h : LsOk m.pl l) : LsOk m l := ⟨h.dn, h.secret, h.newRdn, h.newSup, h.typ, h.value, h.oid, h.matched, h.text, h.filt, h.sel, h.sels, h.mods, h.modss, h.attrs, h.ctl, h.ctls⟩
theorem sd (m : Mg) : (bo m.pl).pl = (bo m).pl := by
 have key : ∀ (p : Prop) [Decidable p] (a b c d : Mg), a.pl = c.pl → b.pl = d.pl → (if p then a else b).pl = (if p then c else d).pl := fun p _ a b c d h1 h2 => by split <;> assumption
 unfold bo
 repeat' (first | apply key | rfl)
theorem fM (m : Mg) (l : Ls) : bH m.pl l = bH m l := by
 have h : gC (bo m.pl) m.pl = gC (bo m) m := by
  have := sd m;have e1 : ∀ a b : Mg, gC a b = gC a.pl b.pl := fun _ _ => rfl
  rw [e1, this, ← e1 (bo m) m.pl]
  rfl
 unfold bH;rw [h]
 rfl
theorem qM (b : List UInt8) (el : El) (x : UInt8) (r : List UInt8) (h : bP 20 b = .ok (el, x :: r)) (hl : b.length ≤ 1000000) (w : World) :
  Calls Tryz.prog 20 #[.string ⟨b.toArray⟩] w fun e w' => e = .returned (.tuple #[.agg Ze, .int .i64 25]) ∧ Below w.heap.size w w' := by
 have hmf : ∀ (fn : Fn) (first cap : Array Value) (w : World), (Instr.makeFunc fn first cap).run Tryz.prog w = .ok (.func fn first cap) w := fun _ _ _ _ => rfl
 obtain ⟨PR, hPR⟩ : ∃ PR : Ending → World → Prop, PR = fun e w' => e = .returned (.tuple #[.agg Ze, .int .i64 25]) ∧ Below w.heap.size w w' := ⟨_, rfl⟩
 rw [← hPR];have HP := hid hPR;clear hPR;have bA : Below w.heap.size w ((w.alloc (.cells Ze 45)).alloc (.cells #[.int .i64 0] 32)) := ((aq _ _).alloc (ah _) _).alloc (by simp) _;have rA : ((w.alloc (.cells Ze 45)).alloc (.cells #[.int .i64 0] 32)).heap[w.heap.size]? = some (.cells Ze 45 (0, 0)) := (alloc_old _ _ _ (by simp)).trans (bi _ _ _ rfl);have nA : ((w.alloc (.cells Ze 45)).alloc (.cells #[.int .i64 0] 32)).heap[w.heap.size + 1]? = some (.cells #[.int .i64 0] 32 (0, 0)) := bi _ _ _ (by simp);have kr : ∀ w, Calls Tryz.prog 56 #[.string ⟨b.toArray⟩, .int .i64 0] w fun e w' => (∃ u, e = .returned (.tuple #[.agg (elA el u), .string ⟨(x :: r).toArray⟩]) ∧ bf (fun g => w.heap.size ≤ g) w' u el.kids) ∧ Below w.heap.size w w' := fun w => by
  have h9 := gn 20 (ah _) b w hl;unfold RdP RdQ at h9;rw [h] at h9;exact h9
 clear h hl
 go_enter_defers Tryz.func20, Tryz.ntmps20
 go_wp2_with fail
 generalize (w.alloc (.cells Ze 45)).alloc (.cells #[.int .i64 0] 32) = wA at bA rA nA ⊢;refine ag (show Calls _ _ _ _ _ from kr wA) ?_;rintro e w1 ⟨⟨u, rfl, hu⟩, hb1⟩;obtain ⟨a2, c2, hf2⟩ := hu.shape;subst hf2;have r1 := (hb1.block _ (gl rA)).trans rA;have n1 := (hb1.block _ (gl nA)).trans nA;have b1 := bA.trans (hb1.mono bA.size);clear kr hb1 bA rA;have m1 := alb w1 (Er el a2 c2) 45;have hltn := (gl n1);have r2 := (m1.block _ (gl r1)).trans r1;have n2 := (m1.block _ hltn).trans n1;have b2 := b1.trans (m1.mono b1.size);have hA2 : w.heap.size + 2 ≤ wA.heap.size := (gl nA);have r3 := setRow_heap (w1.alloc (.cells (Er el a2 c2) 45)) w.heap.size _ Ze _ _ r2;have n3 := (setRow_other (w1.alloc (.cells (Er el a2 c2) 45)) w.heap.size (w.heap.size + 1) Ze (by omega)).trans n2;have b3 := bm b2 (g := w.heap.size) (ah _) Ze;have HR := hid r3;have HN := hid n3;have HB := hid b3;clear hu r1 n1 b1 m1 n2 b2 r3 n3 b3 nA;unfold elA
 go_wp2_with (refine bh rfl 45 (.tmp 2) (.tmp 14) rfl w.heap.size 45 _ Ze (by rfl) (by rfl) r2 (by rfl) (by rfl) (by simp [Value.oneCell']) ?_; clear r2; generalize (w1.alloc (.cells (Er el a2 c2) 45)).setRow w.heap.size Ze = w3 at HR HN HB ⊢; have q3 : w3.cell? ⟨w.heap.size + 1, 0, none⟩ = some (.int .i64 0) := (ad HN.out 0).trans rfl; have z3 := aj HN.out 0)
 have f1 : (w3.setCell ⟨w.heap.size + 1, 0, none⟩ (.int .i64 25)).heap[w.heap.size]? = some (.cells Ze 45 (0, 0)) := (aX w3 ⟨w.heap.size + 1, 0, none⟩ (.int .i64 25) w.heap.size (by show w.heap.size ≠ w.heap.size + 1; omega)).trans HR.out;have f2 : (w3.setCell ⟨w.heap.size + 1, 0, none⟩ (.int .i64 25)).cell? ⟨w.heap.size + 1, 0, none⟩ = some (.int .i64 25) := (ad (show (w3.setCell ⟨w.heap.size + 1, 0, none⟩ (.int .i64 25)).heap[w.heap.size + 1]? = some (.cells #[.int .i64 25] 32 (0, 0)) from bw (i := 0) (u := .int .i64 25) HN.out) 0).trans rfl;have bF := HB.out.setCell (p := ⟨w.heap.size + 1, 0, none⟩) (by show w.heap.size ≤ w.heap.size + 1; omega) (.int .i64 25);clear HR HN HB;generalize w3.setCell ⟨w.heap.size + 1, 0, none⟩ (.int .i64 25) = wF at f1 f2 bF ⊢;refine leaves_cons (f := 55) (args := #[.pointer (some ⟨w.heap.size, 0, none⟩), .pointer (some ⟨w.heap.size + 1, 0, none⟩)]) (by simp) (by simp [go_sem]) ?_;refine (lo w.heap.size (w.heap.size + 1) wF).mono ?_;rintro e u' w3 ⟨rfl, rfl, hw3⟩;rw [hw3];have c0 : wF.cell? ⟨w.heap.size, 0, none⟩ = some (.int .i64 0) := (ad f1 0).trans rfl;have c1 : wF.cell? ⟨w.heap.size, 1, none⟩ = some (.int .i64 0) := (ad f1 1).trans rfl;have c2' : wF.cell? ⟨w.heap.size, 2, none⟩ = some (.bool false) := (ad f1 2).trans rfl;have c3 : wF.cell? ⟨w.heap.size, 3, none⟩ = some (Es) := (ad f1 3).trans rfl;have c4 : wF.cell? ⟨w.heap.size, 4, none⟩ = some (.slice none 0 0) := (ad f1 4).trans rfl
 simp [Leaves, settle, results, Tryz.results20, go_sem, c0, c1, c2', c3, c4, f2]
 rw [HP.out];exact ⟨rfl, bF⟩
theorem kE (el : El) (u : Value) (A M : Nat) (w : World) (hA : w.heap[A]? = some (.cells (elA el u) 45 (0, 0))) (hM : w.heap[M]? = some (.cells (Mg.row {}) 28 (0, 0))) (h : bf (fun _ => True) w u el.kids) (hs : SmE el) (hcn : ed el ≤ 1000000000) :
  Calls Tryz.prog 47 #[.pointer (some ⟨A, 0, none⟩), .pointer (some ⟨M, 0, none⟩)] w fun e w' => Out (dU el) (fun y v w' => v = .tuple #[] ∧ ∃ m : Mg, w'.heap[M]? = some (.cells m.row 28 (0, 0)) ∧ m.pl = y.1 ∧ LsL w.heap.size w' m y.2) e w' ∧ Lft [M] w.heap.size w w' := by
 have kt := rW el u w h hs hcn;obtain ⟨O, hO⟩ : ∃ O, dU el = O := ⟨_, rfl⟩;rw [hO] at kt ⊢;have hMl := (gl hM);clear hO h hs hcn
 go_enter Tryz.func47, Tryz.ntmps47
 go_wp2_with (refine bg rfl 45 (.tmp 0) rfl A 45 _ (0, 0) (by rfl) hA _ Tryz.underlying45 rfl (by rfl) ?_)
 refine ag kt ?_;rintro e w1 ⟨ho, hb1⟩;have m1 := bk hb1 hM;clear kt hA hM;cases O with
 | none =>
  have he : e = Pn := ho;subst he;exact ⟨rfl, rfl, .of hb1⟩
 | some y =>
  obtain ⟨v, rfl, m, rfl, hpl, hls⟩ := ho;obtain ⟨RW, hRW⟩ : ∃ RW, m.row = RW := ⟨_, rfl⟩;have hR1 : RW.size = 28 := by rw [← hRW]; rfl
  have hR2 : RW.all (·.oneCell') = true := by rw [← hRW]; exact Mg.one _ (LsL.one hls)
  have m2 := setRow_heap w1 M _ RW _ _ m1;have lF : Lft [M] w.heap.size w (w1.setRow M RW) := (Lft.of hb1).row _ _ (by simp);have hl2 : LsL w.heap.size (w1.setRow M RW) m y.2 := hls.keep fun g hg hl => setRow_other _ _ g RW (by omega)
  rw [hRW];have HR1 := hid hR1;have HR2 := hid hR2;have HRW := hid hRW;have M2 := hid m2;clear hR1 hR2 hRW hb1 hls m2
  go_wp2_with (refine bh rfl 28 (.tmp 1) (.tmp 3) rfl M 28 _ RW (by rfl) (by rfl) m1 (by rw [HR1.out]; rfl) (by rw [HR1.out]; rfl) HR2.out ?_)
  go_end0
  exact ⟨⟨_, rfl, rfl, m, by rw [HRW.out]; exact M2.out, hpl, hl2⟩, lF⟩
theorem mG (po : Nat) (y : Value) (w : World) (h3 : w.cell? ⟨po, 0, none⟩ = some y) (h4 : w.frozen? ⟨po, 0, none⟩ = false) :
  CallsD Tryz.prog 98 #[.pointer (some ⟨po, 0, none⟩)] (.panicking ({ v := fu 70, recovered := false } :: [])) w fun e u' w' =>
   e = .returned (.tuple #[]) ∧ u' = .panicking ({ v := fu 70, recovered := true } :: []) ∧ w' = w.setCell ⟨po, 0, none⟩ (Bf) := by
 have hta : ∀ w, (Instr.typeAssert (.iface 32 (.int .i64 70)) 20 32 true).run Tryz.prog w = .ok (.tuple #[.int .i64 70, .bool true]) w := fun w => by kernel_rfl
 refine callsD_of_wpS Tryz.func98 rfl fun c₀ cs hu => ?_
 apply wpS_seq;apply wpS_region
 simp [wpOpsS, go_sem, recoverD, hu, Tryz.ntmps98, Exit.thenS]
 unfold fu;refine wpS_of_wp ?_;simp only [Array.replicate, List.replicate, List.setIfInBounds_toArray, List.set]
 go_wp2_with fail
 refine ⟨rfl, _, rfl, _, results_none rfl _ _ _, rfl, rfl, rfl⟩
theorem lC (el : El) (u : Value) (A M : Nat) (w : World) (hA : w.heap[A]? = some (.cells (elA el u) 45 (0, 0))) (hM : w.heap[M]? = some (.cells (Mg.row {}) 28 (0, 0))) (h : bf (fun _ => True) w u el.kids) (hs : SmE el) (hcn : ed el ≤ 1000000000) (y : Mg × Ls) (hT : dU el = some y) :
  Calls Tryz.prog 46 #[.func (.func 47) #[] #[.pointer (some ⟨A, 0, none⟩), .pointer (some ⟨M, 0, none⟩)]] w fun e w' => (e = .returned (.bool true) ∧ ∃ m : Mg, w'.heap[M]? = some (.cells m.row 28 (0, 0)) ∧ m.pl = y.1 ∧ LsL w.heap.size w' m y.2) ∧ Lft [M] w.heap.size w w' := by
 have hmf : ∀ (fn : Fn) (first cap : Array Value) (w : World), (Instr.makeFunc fn first cap).run Tryz.prog w = .ok (.func fn first cap) w := fun _ _ _ _ => rfl
 obtain ⟨PR, hPR⟩ : ∃ PR : Ending → World → Prop, PR = fun e w' => (e = .returned (.bool true) ∧ ∃ m : Mg, w'.heap[M]? = some (.cells m.row 28 (0, 0)) ∧ m.pl = y.1 ∧ LsL w.heap.size w' m y.2) ∧ Lft [M] w.heap.size w w' := ⟨_, rfl⟩
 rw [← hPR];have HP := hid hPR;clear hPR;have hMl := (gl hM);have bA := alb w #[Bf] 4;have oA := alz w #[Bf] 4;have kr := kE el u A M (w.alloc (.cells #[Bf] 4)) (bk bA hA) (bk bA hM) (h.below bA) hs hcn;rw [hT] at kr;clear hA hM h hs hcn hT
 go_enter_defers Tryz.func46, Tryz.ntmps46
 go_wp2_with fail
 generalize w.alloc (.cells #[Bf] 4) = wA at bA oA kr ⊢;refine ag kr ?_;rintro e w1 ⟨ho, hb1⟩;have hsA := bA.size;have hoA := (gl oA);have o1 := hb1.at oA (by simp; omega);have b1 : Lft [M] w.heap.size w w1 := (Lft.of bA).trans (hb1.mono (ah _) fun _ _ h => h) (ah _);obtain ⟨v, rfl, rfl, m, m1, hpl, hls⟩ := ho;have q1 : w1.cell? ⟨w.heap.size, 0, none⟩ = some (Bf) := (ad o1 0).trans rfl;have z1 := aj o1 0;have t2 : Lft [w.heap.size] w1.heap.size w1 (w1.setCell ⟨w.heap.size, 0, none⟩ (.bool true)) := (Lft.refl w1).set _ _ _ (by simp);have M2 := hid (t2.at m1 (by simp; omega));have O2 := hid ((ad (show (w1.setCell ⟨w.heap.size, 0, none⟩ (.bool true)).heap[w.heap.size]? = some (.cells #[.bool true] 4 (0, 0)) from bw (i := 0) (u := .bool true) o1) 0).trans (show _ = some (Value.bool true) from rfl));have B2 := hid (show Lft [M] w.heap.size w (w1.setCell ⟨w.heap.size, 0, none⟩ (.bool true)) from ⟨b1.os, b1.tape, b1.output, by simpa using b1.size, fun j hj hne => (t2.block j (by have := b1.size; omega) (by simp; omega)).trans (b1.block j hj hne)⟩);have L2 := hid ((hls.keep (w' := w1.setCell ⟨w.heap.size, 0, none⟩ (.bool true)) fun g hg hl => t2.old hl (by simp; omega)).mono (B' := w.heap.size) (by omega));clear kr oA hb1 o1 b1 m1 t2 hls
 go_wp2_with fail
 have o2 := O2.out;clear q1 z1 O2;generalize w1.setCell ⟨w.heap.size, 0, none⟩ (.bool true) = wF at o2 M2 B2 L2 ⊢;refine leaves_cons (f := 98) (args := #[.pointer (some ⟨w.heap.size, 0, none⟩)]) (by simp) (by simp [go_sem]) ?_;refine (pA w.heap.size wF).mono ?_;rintro e u' w3 ⟨rfl, rfl, hw3⟩;rw [hw3]
 simp [Leaves, settle, results, Tryz.results46, go_sem, o2]
 rw [HP.out];exact ⟨⟨rfl, m, M2.out, hpl, L2.out⟩, B2.out⟩
theorem qN (el : El) (u : Value) (A M : Nat) (w : World) (hA : w.heap[A]? = some (.cells (elA el u) 45 (0, 0))) (hM : w.heap[M]? = some (.cells (Mg.row {}) 28 (0, 0))) (h : bf (fun _ => True) w u el.kids) (hs : SmE el) (hcn : ed el ≤ 1000000000) (hT : dU el = none) :
  Calls Tryz.prog 46 #[.func (.func 47) #[] #[.pointer (some ⟨A, 0, none⟩), .pointer (some ⟨M, 0, none⟩)]] w fun e w' => e = .returned (Bf) ∧ Lft [M] w.heap.size w w' := by
 have hmf : ∀ (fn : Fn) (first cap : Array Value) (w : World), (Instr.makeFunc fn first cap).run Tryz.prog w = .ok (.func fn first cap) w := fun _ _ _ _ => rfl
 obtain ⟨PR, hPR⟩ : ∃ PR : Ending → World → Prop, PR = fun e w' => e = .returned (Bf) ∧ Lft [M] w.heap.size w w' := ⟨_, rfl⟩
 rw [← hPR];have HP := hid hPR;clear hPR;have hMl := (gl hM);have bA := alb w #[Bf] 4;have oA := alz w #[Bf] 4;have kr := kE el u A M (w.alloc (.cells #[Bf] 4)) (bk bA hA) (bk bA hM) (h.below bA) hs hcn;rw [hT] at kr;clear hA hM h hs hcn hT
 go_enter_defers Tryz.func46, Tryz.ntmps46
 go_wp2_with fail
 generalize w.alloc (.cells #[Bf] 4) = wA at bA oA kr ⊢;refine ag kr ?_;rintro e w1 ⟨ho, hb1⟩;have hsA := bA.size;have hoA := (gl oA);have o1 := hb1.at oA (by simp; omega);have b1 : Lft [M] w.heap.size w w1 := (Lft.of bA).trans (hb1.mono (ah _) fun _ _ h => h) (ah _);have he : e = Pn := ho;subst he;have q1 : w1.cell? ⟨w.heap.size, 0, none⟩ = some (Bf) := (ad o1 0).trans rfl;have z1 := aj o1 0;have t2 : Lft [w.heap.size] w1.heap.size w1 (w1.setCell ⟨w.heap.size, 0, none⟩ (Bf)) := (Lft.refl w1).set _ _ _ (by simp);have o2 : (w1.setCell ⟨w.heap.size, 0, none⟩ (Bf)).cell? ⟨w.heap.size, 0, none⟩ = some (Bf) := (ad (show (w1.setCell ⟨w.heap.size, 0, none⟩ (Bf)).heap[w.heap.size]? = some (.cells #[Bf] 4 (0, 0)) from bw (i := 0) (u := Bf) o1) 0).trans rfl;have B2 := hid (show Lft [M] w.heap.size w (w1.setCell ⟨w.heap.size, 0, none⟩ (Bf)) from ⟨b1.os, b1.tape, b1.output, by simpa using b1.size, fun j hj hne => (t2.block j (by have := b1.size; omega) (by simp; omega)).trans (b1.block j hj hne)⟩);clear kr oA hb1 b1 t2 o1
 go_wp2
 refine leaves_cons (f := 98) (args := #[.pointer (some ⟨w.heap.size, 0, none⟩)]) (by simp) (by simp [go_sem]) ?_;refine (mG w.heap.size (Bf) w1 q1 z1).mono ?_;rintro e u' w2 ⟨rfl, rfl, rfl⟩;generalize w1.setCell ⟨w.heap.size, 0, none⟩ (Bf) = wF at o2 B2 ⊢
 simp [Leaves, settle, results, Tryz.results46, go_sem, o2]
 rw [HP.out];exact ⟨rfl, B2.out⟩
mutual
theorem jy : ∀ e : El, ed e ≤ cW e
 | .mk c t k b ks => by
  have := mH ks;simp only [ed, cW]
  omega
theorem mH : ∀ l : List El, dL l ≤ bD l
 | [] => by simp [dL]
 | e :: r => by
  have := jy e;have := mH r;simp only [dL, bD]
  omega
end
def dy (b : List UInt8) : Except Int (Mg × Ls) := match fO b with
 | .error c => .error c
 | .ok e => match dU e with
  | none => .error 70
  | some y => if bH y.1 y.2 then .ok y else .error 70
theorem LsL.mgm {B : Nat} {w : World} {m : Mg} {l : Ls} (h : LsL B w m l) : MgM w m l := ⟨h.filt.flts, h.sel.strs, h.mods.mods, h.attrs.attrs, h.ctl.ctls⟩
theorem lD (b : List UInt8) (c : Int) (hc : c ≠ 0) (kb : ∀ w, Calls Tryz.prog 20 #[.string ⟨b.toArray⟩] w fun e w' => e = .returned (.tuple #[.agg Ze, .int .i64 c]) ∧ Below w.heap.size w w') (w : World) :
  Cr 17 #[.string ⟨b.toArray⟩] w (.tuple #[.agg Zm, .int .i64 c]) := by
 have hmf : ∀ (fn : Fn) (first cap : Array Value) (w : World), (Instr.makeFunc fn first cap).run Tryz.prog w = .ok (.func fn first cap) w := fun _ _ _ _ => rfl
 have t1 : (w.alloc (.cells Zm 28)).heap[w.heap.size]? = some (.cells (Mg.row {}) 28 (0, 0)) := bi _ _ _ rfl;have b1 := alb w Zm 28;have kr := kb (w.alloc (.cells Zm 28));have i0 : (c == 0) = false := aE hc;clear kb
 go_enter Tryz.func17, Tryz.ntmps17
 go_wp2_with fail
 generalize (w.alloc (.cells Zm 28)) = w1 at t1 b1 kr ⊢;refine ag kr ?_;rintro e w2 ⟨rfl, hb2⟩;have t2 := bk hb2 t1;have b2 := b1.trans (hb2.mono b1.size);clear kr hb2 t1 b1;obtain ⟨E, hE⟩ : ∃ E, (Ze : Array Value) = E := ⟨_, rfl⟩;have hE1 : E.all (·.oneCell') = true := by rw [← hE]; simp [Value.oneCell']
 have hE2 : E.size = 5 := by rw [← hE]; rfl
 rw [hE];have HE1 := hid hE1;have HE2 := hid hE2;clear hE hE1 hE2;have x3 := alz w2 Ze 45;have g3 : Below w2.heap.size w2 ((w2.alloc (.cells Ze 45)).setRow w2.heap.size E) := bm ((aq _ _).alloc (ah _) _) (ah _) E;have t3 := hid (bk g3 t2);have b3 := hid (b2.trans (g3.mono b2.size));have X3 := hid x3;clear t2 b2 x3 g3
 go_upto_region 2 with (refine bh rfl 45 (.tmp 4) (.tmp 10) rfl w2.heap.size 45 _ E (by rfl) (by rfl) X3.out (by rw [HE2.out]; rfl) (by rw [HE2.out]; rfl) HE1.out ?_)
 have t3 := t3.out;have b3 := b3.out;generalize (w2.alloc (.cells Ze 45)).setRow w2.heap.size E = w3 at t3 b3 ⊢;clear X3;have b9 := hid (bm b3 (g := w.heap.size) (ah _) Zm);have t9 := hid (setRow_heap w3 w.heap.size _ Zm _ _ t3)
 go_wp2_with (refine bh rfl 28 (.tmp 2) (.tmp 14) rfl w.heap.size 28 _ Zm (by rfl) (by rfl) t3 (by rfl) (by rfl) (by simp [Value.oneCell']) ?_)
 have b9 := b9.out;have t9 := t9.out;generalize w3.setRow w.heap.size Zm = w9 at b9 t9 ⊢;refine aH (v := .tuple #[.agg Zm, .int .i64 c]) ?_ rfl ⟨rfl, b9⟩;have hr := aJ (P := Tryz.prog) w9 w.heap.size 28 28 Zm (0, 0) _ t9 (show Tryz.prog.underlying 28 = _ from Tryz.underlying28) (by rfl) (by rfl)
 simp [results, Tryz.f17]
 show ((Sem.run Tryz.prog (loadVar 28 ⟨w.heap.size, 0, none⟩) w9).andThen fun a w' => Result.ok (Value.tuple #[a, .int .i64 c]) w') = _;rw [hr]
 simp
theorem se (b : List UInt8) (el : El) (hr : bP 20 b = .ok (el, [])) (hl : b.length ≤ 1000000) (hT : dU el = none) (w : World) :
  Cr 17 #[.string ⟨b.toArray⟩] w (.tuple #[.agg Zm, .int .i64 70]) := by
 have hmf : ∀ (fn : Fn) (first cap : Array Value) (w : World), (Instr.makeFunc fn first cap).run Tryz.prog w = .ok (.func fn first cap) w := fun _ _ _ _ => rfl
 have t1 : (w.alloc (.cells Zm 28)).heap[w.heap.size]? = some (.cells (Mg.row {}) 28 (0, 0)) := bi _ _ _ rfl;have b1 := alb w Zm 28;have kr := kP b el hr hl (w.alloc (.cells Zm 28));have hraw := (fL 20 b el [] hr).2;have hsm := kC el (by omega);have hcn : ed el ≤ 1000000000 := by have := jy el; omega
 clear hr hl
 go_enter Tryz.func17, Tryz.ntmps17
 go_wp2_with fail
 generalize (w.alloc (.cells Zm 28)) = w1 at t1 b1 kr ⊢;refine ag kr ?_;rintro e w2 ⟨⟨u, rfl, hu⟩, hb2⟩;have t2 := bk hb2 t1;have b2 := b1.trans (hb2.mono b1.size);have hs1 := b1.size;have hs2 := b2.size;clear kr hb2 t1 b1;obtain ⟨a, c, hsl⟩ := hu.shape;subst hsl;obtain ⟨E, hE⟩ : ∃ E, elA el (.slice a el.kids.length c) = E := ⟨_, rfl⟩;have hE1 : E.all (·.oneCell') = true := by rw [← hE]; simp [elA, Value.oneCell']
 have hE2 : E.size = 5 := by rw [← hE]; rfl
 rw [hE];have HE := hid hE;have HE1 := hid hE1;have HE2 := hid hE2;clear hE hE1 hE2;have x3 := alz w2 Ze 45;have g3 : Below w2.heap.size w2 ((w2.alloc (.cells Ze 45)).setRow w2.heap.size E) := bm ((aq _ _).alloc (ah _) _) (ah _) E;have e3 := hid (setRow_heap (w2.alloc (.cells Ze 45)) w2.heap.size _ E _ _ x3);have u3 := hid (hu.below g3);have t3 := hid (bk g3 t2);have b3 := hid (b2.trans (g3.mono b2.size));have X3 := hid x3;have ht := (gl t2);clear t2 b2 x3 g3 hu;have hsz3 : ((w2.alloc (.cells Ze 45)).setRow w2.heap.size E).heap.size = w2.heap.size + 1 := by simp [World.setRow]
 go_upto_region 4 with (refine bh rfl 45 (.tmp 4) (.tmp 10) rfl w2.heap.size 45 _ E (by rfl) (by rfl) X3.out (by rw [HE2.out]; rfl) (by rw [HE2.out]; rfl) HE1.out ?_)
 generalize (w2.alloc (.cells Ze 45)).setRow w2.heap.size E = w3 at e3 u3 t3 b3 hsz3 ⊢;clear X3;have m4 : (w3.alloc (.cells Zm 28)).heap[w3.heap.size]? = some (.cells (Mg.row {}) 28 (0, 0)) := bi _ _ _ rfl;have g4 := alb w3 Zm 28;have e4 := bk g4 e3.out;have t4 := bk g4 t3.out;have u4 := u3.out.below g4;have b4 := b3.out.trans (g4.mono b3.out.size);clear e3 t3 u3 b3 g4
 go_upto_region 5 with fail
 rw [hsz3] at m4;generalize w3.alloc (.cells Zm 28) = w4 at m4 e4 t4 u4 b4 ⊢;rw [← HE.out] at e4;have kk := qN el (.slice a el.kids.length c) w2.heap.size (w2.heap.size + 1) w4 e4 m4 (u4.kept fun g hg hl => ⟨rfl, trivial⟩) hsm hcn hT;clear hT hsm hcn
 go_wp2_with fail
 refine ag kk ?_;rintro e w5 ⟨rfl, hR5⟩;have t5 := hR5.at t4 (by simp; omega);have b5 := b4.trans (hR5.below1 (B := w.heap.size) (by omega) b4.size);clear kk m4 b4 e4 t4 u4 hR5;have b9 := hid (bm b5 (g := w.heap.size) (ah _) Zm);have t9 := hid (setRow_heap w5 w.heap.size _ Zm _ _ t5)
 go_wp2_with (refine bh rfl 28 (.tmp 2) (.tmp 24) rfl w.heap.size 28 _ Zm (by rfl) (by rfl) t5 (by rfl) (by rfl) (by simp [Value.oneCell']) ?_)
 have b9 := b9.out;have t9 := t9.out;generalize w5.setRow w.heap.size Zm = w9 at b9 t9 ⊢;refine aH (v := .tuple #[.agg Zm, .int .i64 70]) ?_ rfl ⟨rfl, b9⟩;have hr := aJ (P := Tryz.prog) w9 w.heap.size 28 28 Zm (0, 0) _ t9 (show Tryz.prog.underlying 28 = _ from Tryz.underlying28) (by rfl) (by rfl)
 simp [results, Tryz.f17]
 show ((Sem.run Tryz.prog (loadVar 28 ⟨w.heap.size, 0, none⟩) w9).andThen fun a w' => Result.ok (Value.tuple #[a, .int .i64 70]) w') = _;rw [hr]
 simp
theorem qO (b : List UInt8) (el : El) (hr : bP 20 b = .ok (el, [])) (hl : b.length ≤ 1000000) (y : Mg × Ls) (hT : dU el = some y) (hV : bH y.1 y.2 = false) (w : World) (hE : Env w) :
  Cr 17 #[.string ⟨b.toArray⟩] w (.tuple #[.agg Zm, .int .i64 70]) := by
 have hmf : ∀ (fn : Fn) (first cap : Array Value) (w : World), (Instr.makeFunc fn first cap).run Tryz.prog w = .ok (.func fn first cap) w := fun _ _ _ _ => rfl
 have t1 : (w.alloc (.cells Zm 28)).heap[w.heap.size]? = some (.cells (Mg.row {}) 28 (0, 0)) := bi _ _ _ rfl;have b1 := alb w Zm 28;have kr := kP b el hr hl (w.alloc (.cells Zm 28));have hraw := (fL 20 b el [] hr).2;have hsm := kC el (by omega);have hcn : ed el ≤ 1000000000 := by have := jy el; omega
 clear hr hl
 go_enter Tryz.func17, Tryz.ntmps17
 go_wp2_with fail
 generalize (w.alloc (.cells Zm 28)) = w1 at t1 b1 kr ⊢;refine ag kr ?_;rintro e w2 ⟨⟨u, rfl, hu⟩, hb2⟩;have t2 := bk hb2 t1;have b2 := b1.trans (hb2.mono b1.size);have hs1 := b1.size;have hs2 := b2.size;clear kr hb2 t1 b1;obtain ⟨a, c, hsl⟩ := hu.shape;subst hsl;obtain ⟨E, hE⟩ : ∃ E, elA el (.slice a el.kids.length c) = E := ⟨_, rfl⟩;have hE1 : E.all (·.oneCell') = true := by rw [← hE]; simp [elA, Value.oneCell']
 have hE2 : E.size = 5 := by rw [← hE]; rfl
 rw [hE];have HE := hid hE;have HE1 := hid hE1;have HE2 := hid hE2;clear hE hE1 hE2;have x3 := alz w2 Ze 45;have g3 : Below w2.heap.size w2 ((w2.alloc (.cells Ze 45)).setRow w2.heap.size E) := bm ((aq _ _).alloc (ah _) _) (ah _) E;have e3 := hid (setRow_heap (w2.alloc (.cells Ze 45)) w2.heap.size _ E _ _ x3);have u3 := hid (hu.below g3);have t3 := hid (bk g3 t2);have b3 := hid (b2.trans (g3.mono b2.size));have X3 := hid x3;have ht := (gl t2);clear t2 b2 x3 g3 hu;have hsz3 : ((w2.alloc (.cells Ze 45)).setRow w2.heap.size E).heap.size = w2.heap.size + 1 := by simp [World.setRow]
 go_upto_region 4 with (refine bh rfl 45 (.tmp 4) (.tmp 10) rfl w2.heap.size 45 _ E (by rfl) (by rfl) X3.out (by rw [HE2.out]; rfl) (by rw [HE2.out]; rfl) HE1.out ?_)
 generalize (w2.alloc (.cells Ze 45)).setRow w2.heap.size E = w3 at e3 u3 t3 b3 hsz3 ⊢;clear X3;have m4 : (w3.alloc (.cells Zm 28)).heap[w3.heap.size]? = some (.cells (Mg.row {}) 28 (0, 0)) := bi _ _ _ rfl;have g4 := alb w3 Zm 28;have e4 := bk g4 e3.out;have t4 := bk g4 t3.out;have u4 := u3.out.below g4;have b4 := b3.out.trans (g4.mono b3.out.size);clear e3 t3 u3 b3 g4
 go_upto_region 5 with fail
 rw [hsz3] at m4;generalize w3.alloc (.cells Zm 28) = w4 at m4 e4 t4 u4 b4 ⊢;rw [← HE.out] at e4;have kk := lC el (.slice a el.kids.length c) w2.heap.size (w2.heap.size + 1) w4 e4 m4 (u4.kept fun g hg hl => ⟨rfl, trivial⟩) hsm hcn y hT;have hlk := kQ (m := y.1) (l := y.2) hT (by omega);clear hT hsm hcn
 go_wp2_with fail
 refine ag kk ?_;rintro e w5 ⟨⟨rfl, m, m5, hpl, hls⟩, hR5⟩;have t5 := hR5.at t4 (by simp; omega);have b5 := b4.trans (hR5.below1 (B := w.heap.size) (by omega) b4.size);have hok : LsOk m y.2 := LsOk.pl (by rw [hpl]; exact hlk);have kv : Calls Tryz.prog 14 #[.agg m.row] w5 fun e w2 => e = .returned (.bool (bH y.1 y.2)) ∧ Below w5.heap.size w5 w2 := by
  rw [← hpl, fM];exact gR m y.2 w5 hls.mgm (by have := hok.mods; omega) (by have := hok.ctl; omega) (fun _ w2 hb2 => gu y.2.filt m.filt w2 (hls.mgm.filt.below hb2) hok.filt ((hE.below b5).below hb2))
 rw [hV] at kv;have hs4 := b4.size;have ht4 := (gl t4);obtain ⟨F, hF⟩ : ∃ F, m.row = F := ⟨_, rfl⟩;have hF1 : F.all (·.oneCell') = true := by rw [← hF]; exact Mg.one _ (LsL.one hls)
 have hF2 : F.size = 28 := by rw [← hF]; rfl
 rw [hF] at m5 kv;have HF := hid hF;have HF1 := hid hF1;have HF2 := hid hF2;have HLS := hid hls;have m5 := hid m5;clear hF hF1 hF2 kk m4 b4 e4 t4 u4 hR5 hok hlk hls
 go_wp2_with (refine bQ (by rfl) 28 (.tmp 6) rfl (w2.heap.size + 1) 28 _ (0, 0) (by rfl) m5.out _ Tryz.underlying28 rfl (by rw [HF2.out]; rfl) ?_)
 refine ag kv ?_;rintro e w6 ⟨rfl, hb6⟩;have t6 := bk hb6 t5;have m6 := hid (bk hb6 m5.out);have b6 := b5.trans (hb6.mono b5.size);have L6 := hid (HLS.out.keep (fun g _ hl => hb6.block g hl));clear kv hb6 t5 m5 b5 HLS;have b9 := hid (bm b6 (g := w.heap.size) (ah _) Zm);have t9 := hid (setRow_heap w6 w.heap.size _ Zm _ _ t6)
 go_wp2_with (refine bh rfl 28 (.tmp 2) (.tmp 24) rfl w.heap.size 28 _ Zm (by rfl) (by rfl) t6 (by rfl) (by rfl) (by simp [Value.oneCell']) ?_)
 have b9 := b9.out;have t9 := t9.out;generalize w6.setRow w.heap.size Zm = w9 at b9 t9 ⊢;refine aH (v := .tuple #[.agg Zm, .int .i64 70]) ?_ rfl ⟨rfl, b9⟩;have hr := aJ (P := Tryz.prog) w9 w.heap.size 28 28 Zm (0, 0) _ t9 (show Tryz.prog.underlying 28 = _ from Tryz.underlying28) (by rfl) (by rfl)
 simp [results, Tryz.f17]
 show ((Sem.run Tryz.prog (loadVar 28 ⟨w.heap.size, 0, none⟩) w9).andThen fun a w' => Result.ok (Value.tuple #[a, .int .i64 70]) w') = _;rw [hr]
 simp
theorem pm (b : List UInt8) (el : El) (hr : bP 20 b = .ok (el, [])) (hl : b.length ≤ 1000000) (y : Mg × Ls) (hT : dU el = some y) (hV : bH y.1 y.2 = true) (w : World) (hE : Env w) :
  Calls Tryz.prog 17 #[.string ⟨b.toArray⟩] w fun e w' => (∃ m : Mg, e = .returned (.tuple #[.agg m.row, I0]) ∧ m.pl = y.1 ∧ LsL w.heap.size w' m y.2) ∧ Below w.heap.size w w' := by
 have hmf : ∀ (fn : Fn) (first cap : Array Value) (w : World), (Instr.makeFunc fn first cap).run Tryz.prog w = .ok (.func fn first cap) w := fun _ _ _ _ => rfl
 have t1 : (w.alloc (.cells Zm 28)).heap[w.heap.size]? = some (.cells (Mg.row {}) 28 (0, 0)) := bi _ _ _ rfl;have b1 := alb w Zm 28;have kr := kP b el hr hl (w.alloc (.cells Zm 28));have hraw := (fL 20 b el [] hr).2;have hsm := kC el (by omega);have hcn : ed el ≤ 1000000000 := by have := jy el; omega
 clear hr hl
 go_enter Tryz.func17, Tryz.ntmps17
 go_wp2_with fail
 generalize (w.alloc (.cells Zm 28)) = w1 at t1 b1 kr ⊢;refine ag kr ?_;rintro e w2 ⟨⟨u, rfl, hu⟩, hb2⟩;have t2 := bk hb2 t1;have b2 := b1.trans (hb2.mono b1.size);have hs1 := b1.size;have hs2 := b2.size;clear kr hb2 t1 b1;obtain ⟨a, c, hsl⟩ := hu.shape;subst hsl;obtain ⟨E, hE⟩ : ∃ E, elA el (.slice a el.kids.length c) = E := ⟨_, rfl⟩;have hE1 : E.all (·.oneCell') = true := by rw [← hE]; simp [elA, Value.oneCell']
 have hE2 : E.size = 5 := by rw [← hE]; rfl
 rw [hE];have HE := hid hE;have HE1 := hid hE1;have HE2 := hid hE2;clear hE hE1 hE2;have x3 := alz w2 Ze 45;have g3 : Below w2.heap.size w2 ((w2.alloc (.cells Ze 45)).setRow w2.heap.size E) := bm ((aq _ _).alloc (ah _) _) (ah _) E;have e3 := hid (setRow_heap (w2.alloc (.cells Ze 45)) w2.heap.size _ E _ _ x3);have u3 := hid (hu.below g3);have t3 := hid (bk g3 t2);have b3 := hid (b2.trans (g3.mono b2.size));have X3 := hid x3;have ht := (gl t2);clear t2 b2 x3 g3 hu;have hsz3 : ((w2.alloc (.cells Ze 45)).setRow w2.heap.size E).heap.size = w2.heap.size + 1 := by simp [World.setRow]
 go_upto_region 4 with (refine bh rfl 45 (.tmp 4) (.tmp 10) rfl w2.heap.size 45 _ E (by rfl) (by rfl) X3.out (by rw [HE2.out]; rfl) (by rw [HE2.out]; rfl) HE1.out ?_)
 generalize (w2.alloc (.cells Ze 45)).setRow w2.heap.size E = w3 at e3 u3 t3 b3 hsz3 ⊢;clear X3;have m4 : (w3.alloc (.cells Zm 28)).heap[w3.heap.size]? = some (.cells (Mg.row {}) 28 (0, 0)) := bi _ _ _ rfl;have g4 := alb w3 Zm 28;have e4 := bk g4 e3.out;have t4 := bk g4 t3.out;have u4 := u3.out.below g4;have b4 := b3.out.trans (g4.mono b3.out.size);clear e3 t3 u3 b3 g4
 go_upto_region 5 with fail
 rw [hsz3] at m4;generalize w3.alloc (.cells Zm 28) = w4 at m4 e4 t4 u4 b4 ⊢;rw [← HE.out] at e4;have kk := lC el (.slice a el.kids.length c) w2.heap.size (w2.heap.size + 1) w4 e4 m4 (u4.kept fun g hg hl => ⟨rfl, trivial⟩) hsm hcn y hT;have hlk := kQ (m := y.1) (l := y.2) hT (by omega);clear hT hsm hcn
 go_wp2_with fail
 refine ag kk ?_;rintro e w5 ⟨⟨rfl, m, m5, hpl, hls⟩, hR5⟩;have t5 := hR5.at t4 (by simp; omega);have b5 := b4.trans (hR5.below1 (B := w.heap.size) (by omega) b4.size);have hok : LsOk m y.2 := LsOk.pl (by rw [hpl]; exact hlk);have kv : Calls Tryz.prog 14 #[.agg m.row] w5 fun e w2 => e = .returned (.bool (bH y.1 y.2)) ∧ Below w5.heap.size w5 w2 := by
  rw [← hpl, fM];exact gR m y.2 w5 hls.mgm (by have := hok.mods; omega) (by have := hok.ctl; omega) (fun _ w2 hb2 => gu y.2.filt m.filt w2 (hls.mgm.filt.below hb2) hok.filt ((hE.below b5).below hb2))
 rw [hV] at kv;have hs4 := b4.size;have ht4 := (gl t4);obtain ⟨F, hF⟩ : ∃ F, m.row = F := ⟨_, rfl⟩;have hF1 : F.all (·.oneCell') = true := by rw [← hF]; exact Mg.one _ (LsL.one hls)
 have hF2 : F.size = 28 := by rw [← hF]; rfl
 rw [hF] at m5 kv;have HF := hid hF;have HF1 := hid hF1;have HF2 := hid hF2;have HLS := hid hls;have m5 := hid m5;clear hF hF1 hF2 kk m4 b4 e4 t4 u4 hR5 hok hlk hls
 go_wp2_with (refine bQ (by rfl) 28 (.tmp 6) rfl (w2.heap.size + 1) 28 _ (0, 0) (by rfl) m5.out _ Tryz.underlying28 rfl (by rw [HF2.out]; rfl) ?_)
 refine ag kv ?_;rintro e w6 ⟨rfl, hb6⟩;have t6 := bk hb6 t5;have m6 := hid (bk hb6 m5.out);have b6 := b5.trans (hb6.mono b5.size);have L6 := hid (HLS.out.keep (fun g _ hl => hb6.block g hl));clear kv hb6 t5 m5 b5 HLS;have b7 := hid (bm b6 (g := w.heap.size) (ah _) F);have t7 := hid (setRow_heap w6 w.heap.size _ F _ _ t6);have L7 := hid ((L6.out.keep (w' := w6.setRow w.heap.size F) (fun g hg hl => setRow_other _ _ g F (by omega))).mono (B' := w.heap.size) (by omega));clear L6
 go_wp2_with (first
  | (refine bg rfl 28 (.tmp 6) rfl (w2.heap.size + 1) 28 _ (0, 0) (by rfl) m6.out _ Tryz.underlying28 rfl (by rw [HF2.out]; rfl) ?_)
  | (refine bh rfl 28 (.tmp 2) (.tmp 25) rfl w.heap.size 28 _ F (by rfl) (by rfl) t6 (by rw [HF2.out]; rfl) (by rw [HF2.out]; rfl) HF1.out ?_))
 have b7 := b7.out;have t7 := t7.out;have L7 := L7.out;generalize w6.setRow w.heap.size F = w7 at b7 t7 L7 ⊢;refine aH (v := .tuple #[.agg F, I0]) ?_ rfl ⟨⟨m, by rw [HF.out], hpl, L7⟩, b7⟩;have hr := aJ (P := Tryz.prog) w7 w.heap.size 28 28 F (0, 0) _ t7 (show Tryz.prog.underlying 28 = _ from Tryz.underlying28) (by rfl) (by rw [HF2.out]; rfl)
 simp [results, Tryz.f17]
 show ((Sem.run Tryz.prog (loadVar 28 ⟨w.heap.size, 0, none⟩) w7).andThen fun a w' => Result.ok (Value.tuple #[a, I0]) w') = _;rw [hr]
 simp
def MrP (b : List UInt8) (w : World) (e : Ending) (w' : World) : Prop :=
 (match dy b with
  | .error c => e = .returned (.tuple #[.agg (Mg.row {}), .int .i64 c])
  | .ok y => ∃ m : Mg, e = .returned (.tuple #[.agg m.row, I0]) ∧ m.pl = y.1 ∧ LsL w.heap.size w' m y.2) ∧ Below w.heap.size w w'
theorem MrP.error {b : List UInt8} {c : Int} {w w' : World} {e : Ending} (h : dy b = .error c) (k : e = .returned (.tuple #[.agg Zm, .int .i64 c]) ∧ Below w.heap.size w w') : MrP b w e w' := by
 unfold MrP;rw [h];exact k
theorem qP {b : List UInt8} {c : Int} (h : bP 20 b = .error c) : dy b = .error c := by
 unfold dy fO;rw [h]
theorem lE (b : List UInt8) (k : Nat) (c : Int) (h : bP k b = .error c) : c ≠ 0 := by
 rintro rfl;have key : ∀ (g : List UInt8 → Except Int (El × List UInt8)), (∀ b, g b ≠ .error 0) → ∀ (n : Nat) (c : List UInt8), cA g n c ≠ .error 0 := by
  intro g hg n
  induction n with
  | zero => intro c; cases c <;> simp [cA]
  | succ n ih =>
   intro c;cases c with
   | nil => simp [cA]
   | cons x t =>
    unfold cA;cases hx : g (x :: t) with
    | error e => intro he; exact hg _ (by rw [hx]; injection he with he; rw [he])
    | ok p =>
     obtain ⟨k1, c1⟩ := p;simp only;cases hk : cA g n c1 with
     | error e => intro he; exact ih c1 (by rw [hk]; injection he with he; rw [he])
     | ok ks => intro he; cases he
 have : ∀ (k : Nat) (b : List UInt8), bP k b ≠ .error 0 := by
  intro k
  induction k with
  | zero =>
   intro b;unfold bP
   split
   ·intro he; cases he
   ·rename_i h0; intro he; injection he with he; exact h0 he
  | succ k ih =>
   intro b;unfold bP
   split
   ·split
    ·intro he; cases he
    ·split
     ·intro he; cases he
     ·cases hk : cA (bP k) ((b.drop (bt b).1).take (bt b).2.1).length ((b.drop (bt b).1).take (bt b).2.1) with
      | error e => intro he; exact key _ ih _ _ (by rw [hk]; injection he with he; rw [he])
      | ok ks => intro he; cases he
   ·rename_i h0; intro he; injection he with he; exact h0 he
 exact this k b h
theorem lG (b : List UInt8) (hl : b.length ≤ 1000000) (w : World) (hE : Env w) : Calls Tryz.prog 17 #[.string ⟨b.toArray⟩] w (MrP b w) := by
 cases hr : bP 20 b with
 | error c => exact (lD b c (lE b 20 c hr) (nB b c hr hl) w).mono fun e w' h => MrP.error (qP hr) h
 | ok p =>
  obtain ⟨el, r⟩ := p;cases r with
  | cons x r =>
   have h25 : dy b = .error 25 := by unfold dy fO; rw [hr]
   exact (lD b 25 (by decide) (qM b el x r hr hl) w).mono fun e w' h => MrP.error h25 h
  | nil =>
   have hR : fO b = .ok el := by unfold fO; rw [hr]
   cases hT : dU el with
   | none =>
    have h70 : dy b = .error 70 := by unfold dy; rw [hR]; simp only [hT]
    exact (se b el hr hl hT w).mono fun e w' h => MrP.error h70 h
   | some y =>
    cases hV : bH y.1 y.2 with
    | false =>
     have h70 : dy b = .error 70 := by unfold dy; rw [hR]; simp only [hT, hV, aW, if_false]
     exact (qO b el hr hl y hT hV w hE).mono fun e w' h => MrP.error h70 h
    | true =>
     have hok : dy b = .ok y := by unfold dy; rw [hR]; simp only [hT, hV, if_true]
     refine (pm b el hr hl y hT hV w hE).mono fun e w' h => ?_
     unfold MrP;rw [hok];exact h
theorem ct.drewN {w : World} {v : Value} {l : List (List UInt8)} (h : ct w v l) (n : Nat) : ct (w.drewN n) v l := h
theorem eG.drewN {w : World} {v : Value} {l : List (List UInt8 × List (List UInt8))} (h : eG w v l) (n : Nat) : eG (w.drewN n) v l := h
theorem eY.drewN {w : World} {v : Value} {l : List Md} (h : eY w v l) (n : Nat) : eY (w.drewN n) v l := h
theorem jm (v u : Value) (r q : List (List UInt8)) (w : World) (h1 : ct w v r) (h2 : ct w u q) (hl : r.length ≤ 140737488355328) (_hl2 : q.length ≤ 140737488355328) :
  Calls Tryz.prog 50 #[v, u] w fun e w' => e = .returned (.bool (decide (r = q))) ∧ ∃ m, w' = w.drewN m := by
 have H1 := hid h1;have H2 := hid h2;obtain ⟨a1, c1, rfl, hc1, hx1⟩ := h1;obtain ⟨a2, c2, rfl, hc2, hx2⟩ := h2;clear hx1 hx2
 by_cases hlen : r.length = q.length
 ·have hq : ((r.length : Int) == (q.length : Int)) = true := by rw [hlen]; simp
  generalize hA : decide (r = q) = ANS;have HA := hid hA;clear hA
  go_enter Tryz.func50, Tryz.ntmps50
  go_wp2_with fail
  go_loopw [5] (fun i wr => ∃ k m : Nat, i = .int .i64 (k : Int) ∧ k ≤ r.length ∧ wr = w.drewN m ∧ decide (r.drop k = q.drop k) = ANS) (fun i _ => r.length - (RowKit.intOf i).toNat)
  case atStart => exact ⟨0, 0, rfl, by omega, rfl, HA.out⟩
  case round =>
   obtain ⟨k, m, rfl, hk, rfl, hans⟩ := hrel;clear HA
   by_cases hkl : k < r.length
   ·have hkl2 : k < q.length := by omega
    obtain ⟨x, hx⟩ : ∃ x, r[k] = x := ⟨_, rfl⟩;obtain ⟨y, hy⟩ : ∃ y, q[k] = y := ⟨_, rfl⟩;have hxk : r[k]? = some x := by rw [aM hkl, hx]
    have hyk : q[k]? = some y := by rw [aM hkl2, hy]
    have hr0 : r ≠ [] := by intro e; rw [e] at hkl; simp at hkl
    have hq0 : q ≠ [] := by intro e; rw [e] at hkl2; simp at hkl2
    rw [List.drop_eq_getElem_cons hkl, hx, List.drop_eq_getElem_cons hkl2, hy] at hans;obtain ⟨a3, cap3, e3, _, hcell⟩ := H1.out;obtain ⟨g, o, ha, hcc⟩ := hcell hr0;obtain ⟨a4, cap4, e4, _, hcell4⟩ := H2.out;obtain ⟨g', o', ha', hcc'⟩ := hcell4 hq0;cases e3;cases e4;subst ha ha';have p1 := hcc k x hxk;have p2 := hcc' k y hyk;clear hcc hcell hcc' hcell4 hxk hyk hx hy;have i1 : (k : Int) < (r.length : Int) := by omega
    have i2 : (k : Int) < (q.length : Int) := by omega
    have i3 : decide ((k : Int) < (r.length : Int)) = true := aA i1
    by_cases hxy : x = y
    ·subst hxy
     have hans2 : decide (r.drop (k + 1) = q.drop (k + 1)) = ANS := by rw [← hans]; exact decide_eq_decide.2 (by simp)
     have HS := hid hans2;clear hans hans2
     go_wp2
     go_quiet (fail)
     go_wp2
     exact ⟨⟨k + 1, _, by go_num, by omega, rfl, HS.out⟩, by simp [RowKit.intOf]; omega⟩
    ·have e : ANS = false := by rw [← hans]; exact an (fun e => hxy (aN e).1)
     subst e;clear hans;have b1 : (x == y) = false := by simpa using hxy
     clear hxy
     go_wp2
     go_quiet (fail)
     go_wp2
     go_ret
     exact ⟨rfl, _, World.drewN_drewN _ _ _⟩
   ·obtain rfl : k = r.length := by omega
    have e : ANS = true := by rw [← hans, List.drop_of_length_le (ah _), hlen, List.drop_of_length_le (ah _)]; rfl
    subst e
    go_wp2_with fail
    go_ret
    first | exact ⟨rfl, _, rfl⟩ | exact ⟨rfl, _, World.drewN_drewN _ _ _⟩
 ·have hq : ((r.length : Int) == (q.length : Int)) = false := by simpa using (fun e => hlen (by omega))
  have e : decide (r = q) = false := an (fun e => hlen (by rw [e]));rw [e]
  go_enter Tryz.func50, Tryz.ntmps50
  go_wp2_with fail
  go_ret
  exact ⟨rfl, 0, rfl⟩
theorem mI (v u : Value) (r q : List Md) (w : World) (h1 : eY w v r) (h2 : eY w u q) (hl : r.length ≤ 140737488355328) (_hl2 : q.length ≤ 140737488355328) (hr : ∀ x ∈ r, x.2.2.length ≤ 140737488355328) (hq : ∀ x ∈ q, x.2.2.length ≤ 140737488355328) :
  Calls Tryz.prog 51 #[v, u] w fun e w' => e = .returned (.bool (decide (r = q))) ∧ ∃ m, w' = w.drewN m := by
 have H1 := hid h1;have H2 := hid h2;have H3 := hid hr;have H4 := hid hq;clear hr hq;obtain ⟨a1, c1, rfl, hc1, hx1⟩ := h1;obtain ⟨a2, c2, rfl, hc2, hx2⟩ := h2;clear hx1 hx2
 by_cases hlen : r.length = q.length
 ·have hq : ((r.length : Int) == (q.length : Int)) = true := by rw [hlen]; simp
  generalize hA : decide (r = q) = ANS;have HA := hid hA;clear hA
  go_enter Tryz.func51, Tryz.ntmps51
  go_wp2_with fail
  go_loopw [5] (fun i wr => ∃ k m : Nat, i = .int .i64 (k : Int) ∧ k ≤ r.length ∧ wr = w.drewN m ∧ decide (r.drop k = q.drop k) = ANS) (fun i _ => r.length - (RowKit.intOf i).toNat)
  case atStart => exact ⟨0, 0, rfl, by omega, rfl, HA.out⟩
  case round =>
   obtain ⟨k, m, rfl, hk, rfl, hans⟩ := hrel;clear HA
   by_cases hkl : k < r.length
   ·have hkl2 : k < q.length := by omega
    obtain ⟨x, hx⟩ : ∃ x, r[k] = x := ⟨_, rfl⟩;obtain ⟨y, hy⟩ : ∃ y, q[k] = y := ⟨_, rfl⟩;have hxk : r[k]? = some x := by rw [aM hkl, hx]
    have hyk : q[k]? = some y := by rw [aM hkl2, hy]
    have hr0 : r ≠ [] := by intro e; rw [e] at hkl; simp at hkl
    have hq0 : q ≠ [] := by intro e; rw [e] at hkl2; simp at hkl2
    have hxl := H3.out x (List.mem_of_getElem? hxk);have hyl := H4.out y (List.mem_of_getElem? hyk);rw [List.drop_eq_getElem_cons hkl, hx, List.drop_eq_getElem_cons hkl2, hy] at hans;obtain ⟨a3, cap3, e3, _, hcell⟩ := H1.out;obtain ⟨g, o, ha, hcc⟩ := hcell hr0;obtain ⟨a4, cap4, e4, _, hcell4⟩ := H2.out;obtain ⟨g', o', ha', hcc'⟩ := hcell4 hq0;cases e3;cases e4;subst ha ha';obtain ⟨p1, p2, z1, p3, hz1⟩ := hcc k x hxk;obtain ⟨r1, r2, z2, r3, hz2⟩ := hcc' k y hyk;clear hcc hcell hcc' hcell4 hxk hyk hx hy;have i1 : (k : Int) < (r.length : Int) := by omega
    have i2 : (k : Int) < (q.length : Int) := by omega
    have i3 : decide ((k : Int) < (r.length : Int)) = true := aA i1;have ks := fun a => (jm z1 z2 x.2.2 y.2.2 (w.drewN (m + a)) (hz1.drewN _) (hz2.drewN _) hxl hyl).mono (fun e w'' h => (show e = .returned (.bool (decide (x.2.2 = y.2.2))) ∧ ∃ n, w'' = w.drewN (m + n) from ⟨h.1, h.2.elim fun n hn => ⟨a + n, by rw [hn, World.drewN_drewN, Nat.add_assoc]⟩⟩))
    obtain ⟨s1, d1, e5, _, _⟩ := hz1;obtain ⟨s2, d2, e6, _, _⟩ := hz2;subst e5 e6
    by_cases ho : x.1 = y.1
    ·have b1 : (x.1 == y.1) = true := by simpa using ho
     have b1n : (x.1 != y.1) = false := by simp [ho]
     by_cases ht : x.2.1 = y.2.1
     ·have b2 : (x.2.1 == y.2.1) = true := by simpa using ht
      have b2n : (x.2.1 != y.2.1) = false := by simp [ht]
      by_cases hv : x.2.2 = y.2.2
      ·have hxy : x = y := Prod.ext ho (Prod.ext ht hv)
       rw [aA hv] at ks;have hans2 : decide (r.drop (k + 1) = q.drop (k + 1)) = ANS := by rw [← hans]; exact decide_eq_decide.2 (by simp [hxy])
       have HS := hid hans2;clear hans hans2 ho ht hv hxy
       go_wp2
       go_quiet (exact ks _)
       go_wp2
       exact ⟨⟨k + 1, _, by go_num, by omega, rfl, HS.out⟩, by simp [RowKit.intOf]; omega⟩
      ·have e : ANS = false := by rw [← hans]; exact an (fun e => hv (by rw [(aN e).1]))
       subst e;rw [an hv] at ks;clear hans ho ht hv
       go_wp2
       go_quiet (exact ks _)
       go_wp2
       go_ret
       first | exact ⟨rfl, _, rfl⟩ | exact ⟨rfl, _, World.drewN_drewN _ _ _⟩
     ·have b2 : (x.2.1 == y.2.1) = false := by simpa using ht
      have b2n : (x.2.1 != y.2.1) = true := by simp [ht]
      have e : ANS = false := by rw [← hans]; exact an (fun e => ht (by rw [(aN e).1]))
      subst e;clear hans ho ht ks
      go_wp2
      go_quiet (fail)
      go_wp2
      go_ret
      first | exact ⟨rfl, _, rfl⟩ | exact ⟨rfl, _, World.drewN_drewN _ _ _⟩
    ·have b1 : (x.1 == y.1) = false := by simpa using ho
     have b1n : (x.1 != y.1) = true := by simp [ho]
     have e : ANS = false := by rw [← hans]; exact an (fun e => ho (by rw [(aN e).1]))
     subst e;clear hans ho ks
     go_wp2
     go_quiet (fail)
     go_wp2
     go_ret
     exact ⟨rfl, _, World.drewN_drewN _ _ _⟩
   ·obtain rfl : k = r.length := by omega
    have e : ANS = true := by rw [← hans, List.drop_of_length_le (ah _), hlen, List.drop_of_length_le (ah _)]; rfl
    subst e
    go_wp2_with fail
    go_ret
    first | exact ⟨rfl, _, rfl⟩ | exact ⟨rfl, _, World.drewN_drewN _ _ _⟩
 ·have hq : ((r.length : Int) == (q.length : Int)) = false := by simpa using (fun e => hlen (by omega))
  have e : decide (r = q) = false := an (fun e => hlen (by rw [e]));rw [e]
  go_enter Tryz.func51, Tryz.ntmps51
  go_wp2_with fail
  go_ret
  exact ⟨rfl, 0, rfl⟩
theorem lT (v u : Value) (r q : List (List UInt8 × List (List UInt8))) (w : World) (h1 : eG w v r) (h2 : eG w u q) (hl : r.length ≤ 140737488355328) (_hl2 : q.length ≤ 140737488355328) (hr : ∀ x ∈ r, x.2.length ≤ 140737488355328) (hq : ∀ x ∈ q, x.2.length ≤ 140737488355328) :
  Calls Tryz.prog 52 #[v, u] w fun e w' => e = .returned (.bool (decide (r = q))) ∧ ∃ m, w' = w.drewN m := by
 have H1 := hid h1;have H2 := hid h2;have H3 := hid hr;have H4 := hid hq;clear hr hq;obtain ⟨a1, c1, rfl, hc1, hx1⟩ := h1;obtain ⟨a2, c2, rfl, hc2, hx2⟩ := h2;clear hx1 hx2
 by_cases hlen : r.length = q.length
 ·have hq : ((r.length : Int) == (q.length : Int)) = true := by rw [hlen]; simp
  generalize hA : decide (r = q) = ANS;have HA := hid hA;clear hA
  go_enter Tryz.func52, Tryz.ntmps52
  go_wp2_with fail
  go_loopw [5] (fun i wr => ∃ k m : Nat, i = .int .i64 (k : Int) ∧ k ≤ r.length ∧ wr = w.drewN m ∧ decide (r.drop k = q.drop k) = ANS) (fun i _ => r.length - (RowKit.intOf i).toNat)
  case atStart => exact ⟨0, 0, rfl, by omega, rfl, HA.out⟩
  case round =>
   obtain ⟨k, m, rfl, hk, rfl, hans⟩ := hrel;clear HA
   by_cases hkl : k < r.length
   ·have hkl2 : k < q.length := by omega
    obtain ⟨x, hx⟩ : ∃ x, r[k] = x := ⟨_, rfl⟩;obtain ⟨y, hy⟩ : ∃ y, q[k] = y := ⟨_, rfl⟩;have hxk : r[k]? = some x := by rw [aM hkl, hx]
    have hyk : q[k]? = some y := by rw [aM hkl2, hy]
    have hr0 : r ≠ [] := by intro e; rw [e] at hkl; simp at hkl
    have hq0 : q ≠ [] := by intro e; rw [e] at hkl2; simp at hkl2
    have hxl := H3.out x (List.mem_of_getElem? hxk);have hyl := H4.out y (List.mem_of_getElem? hyk);rw [List.drop_eq_getElem_cons hkl, hx, List.drop_eq_getElem_cons hkl2, hy] at hans;obtain ⟨a3, cap3, e3, _, hcell⟩ := H1.out;obtain ⟨g, o, ha, hcc⟩ := hcell hr0;obtain ⟨a4, cap4, e4, _, hcell4⟩ := H2.out;obtain ⟨g', o', ha', hcc'⟩ := hcell4 hq0;cases e3;cases e4;subst ha ha';obtain ⟨p1, z1, p3, hz1⟩ := hcc k x hxk;obtain ⟨r1, z2, r3, hz2⟩ := hcc' k y hyk;clear hcc hcell hcc' hcell4 hxk hyk hx hy;have i1 : (k : Int) < (r.length : Int) := by omega
    have i2 : (k : Int) < (q.length : Int) := by omega
    have i3 : decide ((k : Int) < (r.length : Int)) = true := aA i1;have HZ1 := hid hz1;have HZ2 := hid hz2;obtain ⟨s1, d1, e5, _, _⟩ := hz1;obtain ⟨s2, d2, e6, _, _⟩ := hz2;subst e5 e6
    by_cases ht : x.1 = y.1
    ·have b1 : (x.1 == y.1) = true := by simpa using ht
     have b1n : (x.1 != y.1) = false := by simp [ht]
     by_cases hv : x.2.length = y.2.length
     ·have b2 : ((x.2.length : Int) == (y.2.length : Int)) = true := by rw [hv]; simp
      have hans2 : decide (x.2.drop 0 = y.2.drop 0 ∧ r.drop (k + 1) = q.drop (k + 1)) = ANS := by
       rw [← hans];refine decide_eq_decide.2 ⟨fun h => ?_, fun h => ?_⟩
       ·have : x = y := Prod.ext ht (by simpa using h.1)
        rw [this, h.2]
       ·have := aN h
        exact ⟨by rw [this.1], this.2⟩
      have HS := hid hans2;clear hans hans2 ht
      go_wp2
      go_quiet (fail)
      go_wp2
      go_loopw [6] (fun i wr => ∃ j m : Nat, i = .int .i64 (j : Int) ∧ j ≤ x.2.length ∧ wr = w.drewN m ∧ decide (x.2.drop j = y.2.drop j ∧ r.drop (k + 1) = q.drop (k + 1)) = ANS) (fun i _ => x.2.length - (RowKit.intOf i).toNat)
      case atStart => exact ⟨0, _, rfl, by omega, World.drewN_drewN _ _ _, HS.out⟩
      case round =>
       obtain ⟨j, m2, rfl, hj, rfl, hans⟩ := hrel;clear HS
       by_cases hjl : j < x.2.length
       ·have hjl2 : j < y.2.length := by omega
        obtain ⟨xv, hxv⟩ : ∃ z, x.2[j] = z := ⟨_, rfl⟩;obtain ⟨yv, hyv⟩ : ∃ z, y.2[j] = z := ⟨_, rfl⟩;have hxk : x.2[j]? = some xv := by rw [aM hjl, hxv]
        have hyk : y.2[j]? = some yv := by rw [aM hjl2, hyv]
        have hr0 : x.2 ≠ [] := by intro e; rw [e] at hjl; simp at hjl
        have hq0 : y.2 ≠ [] := by intro e; rw [e] at hjl2; simp at hjl2
        rw [List.drop_eq_getElem_cons hjl, hxv, List.drop_eq_getElem_cons hjl2, hyv] at hans;obtain ⟨a5, cap5, e5, _, hcell⟩ := HZ1.out;obtain ⟨g5, o5, ha, hcc⟩ := hcell hr0;obtain ⟨a6, cap6, e6, _, hcell4⟩ := HZ2.out;obtain ⟨g6, o6, ha', hcc'⟩ := hcell4 hq0;cases e5;cases e6;subst ha ha';have t1 := hcc j xv hxk;have t2 := hcc' j yv hyk;clear hcc hcell hcc' hcell4 hxk hyk hxv hyv;have i4 : (j : Int) < (x.2.length : Int) := by omega
        have i5 : (j : Int) < (y.2.length : Int) := by omega
        have i6 : decide ((j : Int) < (x.2.length : Int)) = true := aA i4
        by_cases hxy : xv = yv
        ·subst hxy
         have hans2 : decide (x.2.drop (j + 1) = y.2.drop (j + 1) ∧ r.drop (k + 1) = q.drop (k + 1)) = ANS := by rw [← hans]; exact decide_eq_decide.2 (by simp)
         have HS := hid hans2;clear hans hans2
         go_wp2
         go_quiet (fail)
         go_wp2
         exact ⟨⟨j + 1, _, by go_num, by omega, rfl, HS.out⟩, by simp [RowKit.intOf]; omega⟩
        ·have e : ANS = false := by rw [← hans]; exact an (fun e => hxy (aN e.1).1)
         subst e;clear hans;have b3 : (xv == yv) = false := by simpa using hxy
         have b3n : (xv != yv) = true := by simp [hxy]
         clear hxy
         go_wp2
         go_quiet (fail)
         go_wp2
         go_ret
         first | exact ⟨rfl, _, rfl⟩ | exact ⟨rfl, _, World.drewN_drewN _ _ _⟩
       ·obtain rfl : j = x.2.length := by omega
        have hans2 : decide (r.drop (k + 1) = q.drop (k + 1)) = ANS := by
         rw [← hans, List.drop_of_length_le (ah _), hv, List.drop_of_length_le (ah _)]
         simp
        have HS := hid hans2;clear hans hans2
        go_wp2_with fail
        exact ⟨⟨k + 1, _, by go_num, by omega, rfl, HS.out⟩, by simp [RowKit.intOf]; omega⟩
     ·have b2 : ((x.2.length : Int) == (y.2.length : Int)) = false := by simpa using (fun e => hv (by omega))
      have e : ANS = false := by rw [← hans]; exact an (fun e => hv (by rw [(aN e).1]))
      subst e;clear hans ht hv
      go_wp2
      go_quiet (fail)
      go_wp2
      go_ret
      first | exact ⟨rfl, _, rfl⟩ | exact ⟨rfl, _, World.drewN_drewN _ _ _⟩
    ·have b1 : (x.1 == y.1) = false := by simpa using ht
     have b1n : (x.1 != y.1) = true := by simp [ht]
     have e : ANS = false := by rw [← hans]; exact an (fun e => ht (by rw [(aN e).1]))
     subst e;clear hans ht
     go_wp2
     go_quiet (fail)
     go_wp2
     go_ret
     exact ⟨rfl, _, World.drewN_drewN _ _ _⟩
   ·obtain rfl : k = r.length := by omega
    have e : ANS = true := by rw [← hans, List.drop_of_length_le (ah _), hlen, List.drop_of_length_le (ah _)]; rfl
    subst e
    go_wp2_with fail
    go_ret
    first | exact ⟨rfl, _, rfl⟩ | exact ⟨rfl, _, World.drewN_drewN _ _ _⟩
 ·have hq : ((r.length : Int) == (q.length : Int)) = false := by simpa using (fun e => hlen (by omega))
  have e : decide (r = q) = false := an (fun e => hlen (by rw [e]));rw [e]
  go_enter Tryz.func52, Tryz.ntmps52
  go_wp2_with fail
  go_ret
  exact ⟨rfl, 0, rfl⟩
end Go.Proofs.YthjaiigijbjloaaGreatDoor
