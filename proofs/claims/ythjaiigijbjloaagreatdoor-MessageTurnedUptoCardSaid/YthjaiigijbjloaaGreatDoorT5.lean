/- MsK, MsS, MsT, CnA, PlainDn, PlainFlt, ElA, OcA, OcB, ElB, ElC. -/
import Derived.ChangeKeysEq
import Derived.Lib.IndexLaws
import Derived.Lib.Split
import Derived.Lib.ValidLaws
import Derived.Test.YthjaiigijbjloaaGreatDoorT4
namespace Go.Proofs.YthjaiigijbjloaaGreatDoor
open Go.RowKit Go.Lib
open Go.Lib
set_option maxRecDepth 100000
set_option maxHeartbeats 16000000
section
variable {P : Program} (w : World)
theorem mP (d : Nat) (e : TypeId) (c : Nat) (xs : Array Value) : ∀ is : List Nat, (∀ i, i ∈ is → ∃ x, (part e xs (i * c)).run P w = .ok x w ∧ (Op.equalIn d e x x).run P w = .ok true w) → (Op.eqItems d e c xs xs is).run P w = .ok true w
 | [], _ => by simp [Op.eqItems]
 | i :: is, h => by
  obtain ⟨x, h1, h2⟩ := h i (by simp);have ih := mP d e c xs is (fun j hj => h j (List.mem_cons_of_mem _ hj))
  simp [Op.eqItems, h1, h2, ih]
theorem tD (d : Nat) {t tx : TypeId} {v : Value} {ms : Array (String × TypeId)} {i : TypeInfo} (hu : P.underlying t = some (.interface ms)) (hi : P.info? tx = some i) (hc : i.comparable = true) (h : (Op.equalIn d tx v v).run P w = .ok true w) :
  (Op.equalIn (d + 1) t (.iface tx v) (.iface tx v)).run P w = .ok true w := by
 simp [Op.equalIn, run_underlying hu, typeInfo, hi, hc, h]
theorem bv {e : TypeId} {xs : Array Value} {off : Nat} {v : Value} {k : TypeDesc} (hu : P.underlying e = some k) (hk : (match k with | .struct _ | .array _ _ => false | _ => true) = true) (hx : xs[off]? = some v) : (part e xs off).run P w = .ok v w := by
 cases k <;> simp at hk <;> simp [part, isAgg, run_underlying hu, hx]
end
theorem bX (t : TypeId) (ht : t = 3 ∨ t = 9 ∨ t = 4 ∨ t = 118 ∨ t = 120 ∨ t = 119) : ∃ i, Tryz.prog.info? t = some i ∧ i.comparable = true := by
 rcases ht with rfl | rfl | rfl | rfl | rfl | rfl
 all_goals exact ⟨_, rfl, rfl⟩
theorem oz (args : Array Value) (w : World) : (callFunc 116 args).run Tryz.prog w = .ok (.enter 116 args) w := by go_simp
theorem sp (N : Nat) (hN : jw N) (A : Array Value) (hsz : A.size = 28) (el : El) (hs : SmE el) (hz : bK el ≤ N) (w : World)
  (hval : ∀ w', Below w.heap.size w w' → Calls Tryz.prog 14 #[.agg A] w' fun e w'' => e = .returned (.bool true) ∧ Below w'.heap.size w' w'')
  (hel : ∀ w', Below w.heap.size w w' → Calls Tryz.prog 31 #[.agg A] w' fun e w'' => (∃ u, e = .returned (.agg (elA el u)) ∧ bf (fun g => w'.heap.size ≤ g) w'' u el.kids) ∧ Below w'.heap.size w' w'') :
  Cr 12 #[.agg A] w (.tuple #[.string ⟨(dD el).1.toArray⟩, .int .i64 (dD el).2]) := by
 obtain ⟨B, hB⟩ : ∃ B, (dD el).1.toArray = B := ⟨_, rfl⟩;obtain ⟨c, hc⟩ : ∃ c, (dD el).2 = c := ⟨_, rfl⟩;have kb := fun (u : Value) (w : World) (h : bf (fun _ => True) w u el.kids) => pf N hN el hs hz u w h
 rw [hB, hc] at kb ⊢;have KB := hid kb;have HZ := hid hsz;clear kb hB hc hs hz hsz;have b1 := alb w A 28;have m1 := alz w A 28;have HV := hid hval;have HE := hid hel;clear hval hel
 go_enter Tryz.func12, Tryz.ntmps12
 go_upto_region 1 with fail
 generalize w.alloc (.cells A 28) = w1 at b1 m1 ⊢;have kv := HV.out w1 b1
 go_wp2_with (refine bg rfl 28 (.tmp 1) rfl w.heap.size 28 _ (0, 0) (by rfl) m1 _ Tryz.underlying28 rfl (by rw [HZ.out]; rfl) ?_)
 refine ag kv ?_;rintro e w2 ⟨rfl, hb⟩;have m2 := (hb.block _ (gl m1)).trans m1;have b2 := b1.trans (hb.mono b1.size);clear kv HV hb m1 b1;have ke := HE.out w2 b2
 go_wp2_with (refine bg rfl 28 (.tmp 1) rfl w.heap.size 28 _ (0, 0) (by rfl) m2 _ Tryz.underlying28 rfl (by rw [HZ.out]; rfl) ?_)
 refine ag ke ?_;rintro e w3 ⟨⟨u, rfl, hu⟩, hb⟩;have b3 := b2.trans (hb.mono b2.size);clear ke HE hb m2 b2;have kb := KB.out u w3 (hu.mono fun _ _ _ => trivial);clear KB hu
 go_wp2_with fail
 refine ag kb ?_;rintro e w4 ⟨rfl, hb⟩;have b4 := b3.trans (hb.mono b3.size);clear kb hb b3
 go_wp2_with fail
 refine aH (v := .tuple #[.string ⟨B⟩, .int .i64 c]) ?_ rfl ⟨rfl, b4⟩
 simp [results, Tryz.f12]
theorem qW (b : Nat) (A : Array Value) (dn : List UInt8) (w : World) (hb : w.heap[b]? = some (.cells A 28 (0, 0))) (h2 : A[2]? = some (.string ⟨dn.toArray⟩)) :
  Cr 123 #[.pointer (some ⟨b, 0, none⟩)] w (.agg (elA (.mk 0 4 false dn []) (Sn))) := by
 have b1 := alb w Ze 45;have t1 := alz w Ze 45;have m1 := (b1.block _ (gl hb)).trans hb;have q2 := (ad m1 2).trans h2;have ks := bz dn (w.alloc (.cells Ze 45));clear hb h2 m1
 go_enter Tryz.func123, Tryz.ntmps123
 go_wp2_with fail
 generalize w.alloc (.cells Ze 45) = w1 at b1 t1 q2 ks ⊢;refine ag ks ?_;rintro e w2 ⟨rfl, hb2⟩;have t2 := (hb2.block _ (gl t1)).trans t1;have b2 := b1.trans (hb2.mono b1.size);clear ks q2 t1 b1 hb2;obtain ⟨E, hE⟩ : ∃ E, elA (.mk 0 4 false dn []) (Sn) = E := ⟨_, rfl⟩;have hE1 : E.all (·.oneCell') = true := by rw [← hE]; simp [elA, Value.oneCell']
 have hE2 : E.size = 5 := by rw [← hE]; rfl
 rw [hE];have b3 := bm b2 (g := w.heap.size) (ah _) E;have t3 := setRow_heap w2 w.heap.size _ E _ _ t2;have HE := hid hE;have HE1 := hid hE1;have HE2 := hid hE2;clear hE hE1 hE2
 go_wp2_with (refine bh rfl 45 (.tmp 1) (.tmp 4) rfl w.heap.size 45 _ E (by rfl) (by rfl) t2 (by rw [HE2.out]; rfl) (by rw [HE2.out]; rfl) HE1.out ?_)
 refine aH (v := .agg E) ?_ rfl ⟨by rw [HE.out], b3⟩;have hr := aJ (P := Tryz.prog) (w2.setRow w.heap.size E) w.heap.size 45 45 E (0, 0) _ t3 (show Tryz.prog.underlying 45 = _ from Tryz.underlying45) (by rfl) (by rw [HE2.out]; rfl)
 simp [results, Tryz.f123]
 exact hr
theorem tt (args : Array Value) (w : World) : (callFunc 123 args).run Tryz.prog w = .ok (.enter 123 args) w := by go_simp
def kR (c : UInt8) : Bool := (decide (97 ≤ c.toNat) && decide (c.toNat ≤ 122)) || (decide (65 ≤ c.toNat) && decide (c.toNat ≤ 90))
def eN (c : UInt8) : Bool := decide (48 ≤ c.toNat) && decide (c.toNat ≤ 57)
def jz (c : UInt8) : Bool := kR c || eN c || c == 45 || c == 46
def mQ (n : List UInt8) : Bool := !n.isEmpty && !(decide (1 < n.length) && n.getD 0 0 == 48) && n.all eN
def sq (s : List UInt8) : Bool := (split s [46]).all mQ && decide (1 < (split s [46]).length)
def gr (s : List UInt8) : Bool :=
 if s = [] ∨ 64 < s.length then false
 else if kR (s.getD 0 0) then s.all (fun c => jz c && c != 46)
 else sq s
structure Fl where
 op : Int
 n : Int
 typ : List UInt8
 value : List UInt8
 init : List UInt8
 final : List UInt8
 any : List (List UInt8)
def bU (p : Fl) : Bool :=
 if p.op = 0 ∨ p.op = 1 ∨ p.op = 2 then decide (p.typ = []) && decide (p.value = []) && decide (p.init = []) && decide (p.final = []) && decide (p.any = []) && decide (0 ≤ p.n) && (decide (p.op ≠ 2) || decide (p.n = 1))
 else if p.op = 3 ∨ p.op = 5 ∨ p.op = 6 ∨ p.op = 8 then decide (p.n = 0) && decide (p.init = []) && decide (p.final = []) && decide (p.any = []) && gr p.typ
 else if p.op = 4 then !(decide (p.init = []) && decide (p.final = []) && decide (p.any = [])) && !p.any.contains [] && decide (p.n = 0) && decide (p.value = []) && gr p.typ
 else if p.op = 7 then decide (p.n = 0) && decide (p.value = []) && decide (p.init = []) && decide (p.final = []) && decide (p.any = []) && gr p.typ
 else false
def cV (g : List Fl → Option (List Fl)) : Nat → List Fl → Option (List Fl)
 | 0, f => some f
 | n + 1, f => match g f with
  | none => none
  | some r => cV g n r
def bG : Nat → List Fl → Option (List Fl)
 | 0, _ => none
 | _ + 1, [] => none
 | k + 1, p :: f => if bU p then cV (bG k) p.n.toNat f else none
def dz (f : List Fl) : Bool := decide (f.length ≤ 100) && (match bG 20 f with | some [] => true | _ => false)
def cj (s : List UInt8) : El := .mk 0 4 false s []
def bL (p : Fl) : List El :=
 (if p.init = [] then [] else [.mk 2 0 false p.init []]) ++ p.any.map (fun s => .mk 2 1 false s []) ++ (if p.final = [] then [] else [.mk 2 2 false p.final []])
def er (p : Fl) : El :=
 if p.op = 7 then .mk 2 7 false p.typ [] else if p.op = 4 then .mk 2 4 true [] [cj p.typ, .mk 0 16 true [] (bL p)] else .mk 2 p.op true [] [cj p.typ, cj p.value]
def cT (g : List Fl → El × List Fl) : Nat → List Fl → List El × List Fl
 | 0, f => ([], f)
 | n + 1, f => ((g f).1 :: (cT g n (g f).2).1, (cT g n (g f).2).2)
def cD : Nat → List Fl → El × List Fl
 | 0, f => (.mk 0 0 false [] [], f)
 | _ + 1, [] => (.mk 0 0 false [] [], [])
 | k + 1, p :: f => if p.op = 0 ∨ p.op = 1 ∨ p.op = 2 then (.mk 2 p.op true [] (cT (cD k) p.n.toNat f).1, (cT (cD k) p.n.toNat f).2) else (er p, f)
theorem iQ {p : Fl} (h : bU p = true) (h2 : ¬ (p.op = 0 ∨ p.op = 1 ∨ p.op = 2)) : p.n = 0 := by
 unfold bU at h;rw [if_neg h2] at h
 by_cases h3 : p.op = 3 ∨ p.op = 5 ∨ p.op = 6 ∨ p.op = 8
 ·rw [if_pos h3] at h; simp only [aI, aT] at h; exact h.1.1.1.1
 ·rw [if_neg h3] at h
  by_cases h4 : p.op = 4
  ·rw [if_pos h4] at h; simp only [aI, aT] at h; exact h.1.1.2
  ·rw [if_neg h4] at h
   by_cases h5 : p.op = 7
   ·rw [if_pos h5] at h; simp only [aI, aT] at h; exact h.1.1.1.1.1
   ·rw [if_neg h5] at h; cases h
theorem mR {g : List Fl → Option (List Fl)} {e : List Fl → El × List Fl} (hg : ∀ f r, g f = some r → (e f).2 = r) : ∀ (n : Nat) (f r : List Fl), cV g n f = some r → (cT e n f).2 = r
 | 0, f, r, h => by simp [cV] at h; simp [cT, h]
 | n + 1, f, r, h => by
  unfold cV at h;unfold cT;cases hf : g f with
  | none => rw [hf] at h; cases h
  | some r' =>
   rw [hf] at h;rw [hg f r' hf];exact mR hg n r' r h
theorem jA : ∀ (k : Nat) (f r : List Fl), bG k f = some r → (cD k f).2 = r
 | 0, _, _, h => by cases h
 | k + 1, [], _, h => by cases h
 | k + 1, p :: f, r, h => by
  unfold bG at h;unfold cD
  by_cases h0 : bU p = true
  ·rw [if_pos h0] at h
   by_cases h1 : p.op = 0 ∨ p.op = 1 ∨ p.op = 2
   ·rw [if_pos h1]
    exact mR (jA k) _ _ _ h
   ·rw [if_neg h1]
    rw [iQ h0 h1] at h
    simpa [cV] using h
  ·rw [if_neg h0] at h; cases h
theorem lL {g : List Fl → Option (List Fl)} (hg : ∀ f r, g f = some r → r <:+ f) : ∀ (n : Nat) (f r : List Fl), cV g n f = some r → r <:+ f
 | 0, f, r, h => by simp [cV] at h; rw [h]; exact List.suffix_refl _
 | n + 1, f, r, h => by
  unfold cV at h;cases hf : g f with
  | none => rw [hf] at h; cases h
  | some r' =>
   rw [hf] at h;exact (lL hg n r' r h).trans (hg f r' hf)
theorem fR : ∀ (k : Nat) (f r : List Fl), bG k f = some r → r <:+ f
 | 0, _, _, h => by cases h
 | k + 1, [], _, h => by cases h
 | k + 1, p :: f, r, h => by
  unfold bG at h
  split at h
  ·exact (lL (fR k) _ _ _ h).trans (List.suffix_cons _ _)
  ·cases h
theorem ie {g : List Fl → Option (List Fl)} (hg : ∀ f r, g f = some r → r.length < f.length) : ∀ (n : Nat) (f r : List Fl), cV g n f = some r → n + r.length ≤ f.length
 | 0, f, r, h => by simp [cV] at h; simp [h]
 | n + 1, f, r, h => by
  unfold cV at h;cases hf : g f with
  | none => rw [hf] at h; cases h
  | some r' =>
   rw [hf] at h;have h1 := hg f r' hf;have h2 := ie hg n r' r h
   omega
theorem gt : ∀ (k : Nat) (f r : List Fl), bG k f = some r → r.length < f.length
 | 0, _, _, h => by cases h
 | k + 1, [], _, h => by cases h
 | k + 1, p :: f, r, h => by
  unfold bG at h
  split at h
  ·have := ie (gt k) _ _ _ h
   simp only [aG]
   omega
  ·cases h
def Fl.ok (p : Fl) : Prop := p.typ.length ≤ 100000000 ∧ p.value.length ≤ 100000000 ∧ p.init.length ≤ 100000000 ∧ p.final.length ≤ 100000000 ∧ p.any.length ≤ 100000000 ∧ ∀ s ∈ p.any, s.length ≤ 100000000
theorem gk : ∀ (a b : List El), SmL a → SmL b → SmL (a ++ b)
 | [], b, _, hb => hb
 | e :: r, b, ha, hb => by simp only [SmL] at ha; simp only [List.cons_append, SmL]; exact ⟨ha.1, gk r b ha.2 hb⟩
theorem qX : ∀ l : List (List UInt8), (∀ s ∈ l, s.length ≤ 100000000) → SmL (l.map (fun s => El.mk 2 1 false s []))
 | [], _ => by simp [SmL]
 | s :: r, h => by
  simp only [List.map_cons, SmL, SmE];exact ⟨⟨by have := h s (by simp); omega, by simp, trivial⟩, qX r (fun x hx => h x (by simp [hx]))⟩
theorem jq (p : Fl) (h : p.ok) : SmL (bL p) := by
 obtain ⟨h1, h2, h3, h4, h5, h6⟩ := h;unfold bL;refine gk _ _ (gk _ _ ?_ (qX p.any h6)) ?_
 ·split
  ·trivial
  ·simp [SmL, SmE]; omega
 ·split
  ·trivial
  ·simp [SmL, SmE]; omega
theorem iR (p : Fl) (h : p.ok) : (bL p).length ≤ 1000000000 := by
 have h5 := h.2.2.2.2.1;unfold bL
 split <;> split <;> simp <;> omega
theorem tu (p : Fl) (h : p.ok) : SmE (er p) := by
 have hp := jq p h;have hl := iR p h;obtain ⟨h1, h2, h3, h4, h5, h6⟩ := h;unfold er
 split
 ·simp [SmE, SmL]; omega
 ·split
  ·simp only [SmE, SmL, cj]
   simp
   exact ⟨by omega, hl, hp⟩
  ·simp only [SmE, SmL, cj]
   simp
   omega
theorem lM {e : List Fl → El × List Fl} : ∀ (n : Nat) (f : List Fl), (cT e n f).1.length = n
 | 0, f => rfl
 | n + 1, f => by simp [cT, lM n]
theorem kT {g : List Fl → Option (List Fl)} {e : List Fl → El × List Fl} (hg : ∀ f r, g f = some r → (e f).2 = r ∧ r <:+ f) (he : ∀ f r, (∀ p ∈ f, p.ok) → f.length ≤ 100 → g f = some r → SmE (e f).1) :
  ∀ (n : Nat) (f r : List Fl), (∀ p ∈ f, p.ok) → f.length ≤ 100 → cV g n f = some r → SmL (cT e n f).1
 | 0, f, r, _, _, _ => by simp [cT, SmL]
 | n + 1, f, r, hk, hl, h => by
  unfold cV at h;unfold cT;cases hf : g f with
  | none => rw [hf] at h; cases h
  | some r' =>
   rw [hf] at h;obtain ⟨h1, h2⟩ := hg f r' hf;simp only [SmL];rw [h1];exact ⟨he f r' hk hl hf, kT hg he n r' r (fun p hp => hk p (h2.subset hp)) (by have := h2.length_le; omega) h⟩
theorem jr : ∀ (k : Nat) (f r : List Fl), (∀ p ∈ f, p.ok) → f.length ≤ 100 → bG k f = some r → SmE (cD k f).1
 | 0, _, _, _, _, h => by cases h
 | k + 1, [], _, _, _, h => by cases h
 | k + 1, p :: f, r, hk, hl, h => by
  have hlen := gt (k + 1) _ _ h;unfold bG at h;unfold cD
  by_cases h0 : bU p = true
  ·rw [if_pos h0] at h
   by_cases h1 : p.op = 0 ∨ p.op = 1 ∨ p.op = 2
   ·rw [if_pos h1]
    have h2 := ie (gt k) _ _ _ h;simp only [aG] at hl;have hs := kT (fun f r hf => ⟨jA k f r hf, fR k f r hf⟩) (jr k) p.n.toNat f r (fun q hq => hk q (by simp [hq])) (by omega) h;simp only [SmE, lM];exact ⟨by simp, by omega, hs⟩
   ·rw [if_neg h1]
    exact tu p (hk p (by simp))
  ·rw [if_neg h0] at h; cases h
def bJ (B : Nat) (w : World) (v : Value) (l : List El) : Prop :=
 ∃ us : List Value, us.length = l.length ∧ w.ownsRow B 45 5 v l.length (cx l us) ∧
  ∀ (j : Nat) (e : El) (u : Value), l[j]? = some e → us[j]? = some u → bf (fun g => v.ownBlock ≠ some g) w u e.kids
theorem bJ.nil (B : Nat) (w : World) : bJ B w (Sn) [] := ⟨[], rfl, ⟨rfl, .inl ⟨rfl, rfl⟩⟩, fun j e u h => by simp at h⟩
theorem bJ.shape {B : Nat} {w : World} {v : Value} {l : List El} (h : bJ B w v l) : ∃ a c, v = .slice a l.length c := by
 obtain ⟨us, _, ho, _⟩ := h;exact gf ho
theorem bJ.kids {B : Nat} {w : World} {v : Value} {l : List El} (h : bJ B w v l) : bf (fun _ => True) w v l := by
 obtain ⟨us, hu, ho, hk⟩ := h;exact jI ho hu (fun j e u q1 q2 => (hk j e u q1 q2).mono fun _ _ _ => trivial) (fun _ _ => trivial)
theorem bJ.lt {B : Nat} {w : World} {v : Value} {l : List El} (h : bJ B w v l) {g : Nat} (hg : v.ownBlock = some g) : B ≤ g ∧ g < w.heap.size := by
 obtain ⟨us, _, ho, _⟩ := h;exact ho.lt g hg
theorem bJ.keep {B : Nat} {w w' : World} {v : Value} {l : List El} (h : bJ B w v l) (hk : ∀ j, j < w.heap.size → w'.heap[j]? = w.heap[j]?) : bJ B w' v l := by
 obtain ⟨us, hu, ho, hkk⟩ := h;refine ⟨us, hu, ⟨ho.1, ?_⟩, fun j e u q1 q2 => (hkk j e u q1 q2).kept fun g hg hl => ⟨hk g hl, hg⟩⟩;rcases ho.2 with h0 | ⟨g, cap, cur, hv, hb, hg, rest⟩
 ·exact .inl h0
 ·exact .inr ⟨g, cap, cur, hv, hb, (hk g (gl hg)).trans hg, rest⟩
theorem bJ.below {B : Nat} {w w' : World} {v : Value} {l : List El} (h : bJ B w v l) (hb : Below w.heap.size w w') : bJ B w' v l := h.keep fun j hj => hb.block j hj
theorem bJ.mono {B B' : Nat} {w : World} {v : Value} {l : List El} (h : bJ B w v l) (hB : B' ≤ B) : bJ B' w v l := by
 obtain ⟨us, hu, ho, hkk⟩ := h;exact ⟨us, hu, rm ho hB, hkk⟩
theorem bJ.flat {B g : Nat} {w : World} {l : List El} {us : List Value} {cs : Array Value} (hb : w.heap[g]? = some (.cells cs 45 (0, 0))) (hcs : cs.toList = cx l us) (hl : us.length = l.length) (hB : B ≤ g) (hn : l.length ≤ 1000000000)
  (hk : ∀ (j : Nat) (e : El) (u : Value), l[j]? = some e → us[j]? = some u → bf (fun g' => g' ≠ g) w u e.kids) : bJ B w (.slice (some ⟨g, 0, none⟩) l.length l.length) l := by
 have hfl := iY l us hl;refine ⟨us, hl, ⟨by rw [hfl], .inr ⟨g, l.length, cs, rfl, hB, hb, ah _, by unfold maxLen; omega, by rw [← Array.length_toList, hcs, hfl], by rw [hcs, ← hfl, List.take_length]⟩⟩, fun j e u q1 q2 => (hk j e u q1 q2).mono fun g' hg' _ h => hg' ?_⟩;have : g = g' := by simpa [Value.ownBlock] using h
 exact this.symm
theorem sr {B H g cap : Nat} {w w' : World} {v : Value} {l us : List Value} {ls : List El} {e : El} {u : Value} (hl : l = cx ls us) (hu : us.length = ls.length) (_ : w.ownsRow B 45 5 v ls.length l)
  (hk : ∀ (j : Nat) (e : El) (u : Value), ls[j]? = some e → us[j]? = some u → bf (fun g => v.ownBlock ≠ some g) w u e.kids) (hke : bf (fun g => v.ownBlock ≠ some g) w u e.kids)
  (ho : w'.ownsRow B 45 5 (.slice (some ⟨g, 0, none⟩) (ls.length + 1) cap) (ls.length + 1) (l ++ [.int .i64 e.cls, .int .i64 e.tag, .bool e.cons, .string ⟨e.bytes.toArray⟩, u]))
  (hg : w.grownBy w' v.ownBlock) (hat : v.ownBlock = some g ∨ g = H) (hH : w.heap.size = H) : bJ B w' (.slice (some ⟨g, 0, none⟩) (ls.length + 1) cap) (ls ++ [e]) := by
 have hkeep : ∀ (u : Value) (ks : List El), bf (fun g => v.ownBlock ≠ some g) w u ks → bf (fun g' => (.slice (some ⟨g, 0, none⟩) (ls.length + 1) cap : Value).ownBlock ≠ some g') w' u ks := by
  intro u ks q;refine q.kept fun g' hg' hl' => ⟨hg.block g' hl' (fun h => hg' h.symm), fun h => ?_⟩
  have hgg : g = g' := by simpa [Value.ownBlock] using h
  rcases hat with h1 | h1
  ·exact hg' (hgg ▸ h1)
  ·omega
 have hlen : (ls ++ [e]).length = ls.length + 1 := by simp
 refine ⟨us ++ [u], by simp [hu], ?_, fun j x y q1 q2 => ?_⟩
 ·rw [gm _ _ _ _ hu, ← hl, hlen]
  exact ho
 ·by_cases hj : j < ls.length
  ·rw [List.getElem?_append_left hj] at q1
   rw [List.getElem?_append_left (by omega)] at q2;exact hkeep _ _ (hk j x y q1 q2)
  ·have hj' : j = ls.length := by
    have := (List.getElem?_eq_some_iff.1 q1).1
    simp at this
    omega
   subst hj';rw [List.getElem?_append_right (ah _)] at q1;rw [List.getElem?_append_right (by omega)] at q2
   simp [hu] at q1 q2
   subst q1;subst q2;exact hkeep _ _ hke
theorem jt {w : World} {o : Oper} {a : Act} {K : Act → World → Prop} {Q : Exit → Act → World → Prop} (s x : Operand) (ho : o.op = .call { callee := .builtin .append, args := #[s, x], argTypes := #[43, 43] })
  (B : Nat) (v : Value) (ls : List El) (hs : a.eval s = v) (hown : bJ B w v ls) (e : El) (au : Option Addr) (n cu b : Nat) (hx : a.eval x = .slice (some ⟨b, 0, none⟩) 1 1) (hb : w.heap[b]? = some (.cells (elA e (.slice au n cu)) 45 (0, 0)))
  (hke : bf (fun g => v.ownBlock ≠ some g) w (.slice au n cu) e.kids) (hl : ls.length ≤ 1000000000) (hB : B ≤ w.heap.size)
  (h : ∀ a' c' w', bJ B w' (.slice a' (ls.length + 1) c') (ls ++ [e]) → w.grownBy w' v.ownBlock → K (a.put o.dst (.slice a' (ls.length + 1) c')) w') : Oper.wp Tryz.prog o a w K Q := by
 obtain ⟨i0, hi0, hz0, hz1, hz2⟩ := info_parts Tryz.infoElement;obtain ⟨us, hu, hown', hk⟩ := hown;refine wp_append_lies w s x 43 ho B 45 i0 _ 5 64 Tryz.underlying43 hi0 hz0 hz1 hz2 rfl (by decide) v ls.length (cx ls us) hs hown' ⟨b, 0, none⟩ 1 1 [.int .i64 e.cls, .int .i64 e.tag, .bool e.cons, .string ⟨e.bytes.toArray⟩, .slice au n cu] hx rfl (World.news_of_block hb) (by simp [Value.oneCell']) (by decide) (by unfold maxLen; omega) (by omega) hB _ rfl ?_;intro g cap w' q1 q2 q3 _;exact h _ _ _ (sr rfl hu hown' hk hke q1 q2 q3 rfl) q2
theorem bO {w : World} {ops : Array Oper} {rest : List Oper} {o : Oper} {a : Act} {Q : Exit → Act → World → Prop} (hgd : o.guard = none) (s x : Operand) (ho : o.op = .call { callee := .builtin .append, args := #[s, x], argTypes := #[43, 43] })
  (B : Nat) (v : Value) (ls : List El) (hs : a.eval s = v) (hown : bJ B w v ls) (e : El) (au : Option Addr) (n cu b : Nat) (hx : a.eval x = .slice (some ⟨b, 0, none⟩) 1 1) (hb : w.heap[b]? = some (.cells (elA e (.slice au n cu)) 45 (0, 0)))
  (hke : bf (fun g => v.ownBlock ≠ some g) w (.slice au n cu) e.kids) (hl : ls.length ≤ 1000000000) (hB : B ≤ w.heap.size)
  (h : ∀ a' c' w', bJ B w' (.slice a' (ls.length + 1) c') (ls ++ [e]) → w.grownBy w' v.ownBlock → wpList Tryz.prog ops Q rest (a.put o.dst (.slice a' (ls.length + 1) c')) w') : wpList Tryz.prog ops Q (o :: rest) a w :=
 aB hgd fun _ hK => jt s x ho B v ls hs hown e au n cu b hx hb hke hl hB fun a' c' w' h1 h2 => hK _ _ (h a' c' w' h1 h2)
theorem vF (v : Nat) (hv : v < 256) (w : World) :
  Cr 159 #[.int .i64 (v : Int), .int .i64 1] w (.tuple #[.string ⟨#[UInt8.ofNat v]⟩, I0]) := by
 obtain ⟨i0, hi0, hz0, hz1, hz2⟩ := info_parts Tryz.infoByte;have g0 : decide ((v : Int) < 0) = false := an (by omega);have g0' : (v : Int) / 256 = 0 := by omega
 have g1 : ((v : Int) / 256 != 0) = false := by rw [g0']; rfl
 clear g0' hv;have g2 : (v : Int) >>> (8 : Nat) = (v : Int) / 256 := by rw [Int.shiftRight_eq_div_pow]; rfl
 go_enter Tryz.func159, Tryz.ntmps159
 go_wp2_with (refine wpList_make_full _ rfl (.tmp 25) (.tmp 25) 39 rfl w.heap.size 5 i0 (.int .u8 0) 1 Tryz.underlying39 hi0 hz0 hz1 .i64 .i64 1 1 1 rfl rfl rfl rfl (by rw [hz2]; omega) (by unfold maxLen; omega) (ah _) ?_; intro w2 ho2 hg2)
 have hmc : (madeCells (Value.int .u8 0).cells (1 * 1)).toList = [.int .u8 0] := by kernel_rfl
 rw [hmc] at ho2;clear hmc;have hb2 : Below w.heap.size w w2 := (aq w.heap.size w).grown hg2 (ah _) (fun b hb => by cases hb);obtain ⟨c0, z0⟩ := cJ (i := 0) (x := .int .u8 0) ho2 rfl;have ho3 := dH (i := 0) (x := .int .u8 ((v : Int) % 256)) ho2 (by simp);have hcv := eI (P := Tryz.prog) _ 39 9 5 w.heap.size _ [UInt8.ofNat v] Tryz.underlying39 Tryz.underlying5 Tryz.underlying9 (by rw [show bV [UInt8.ofNat v] = [.int .u8 ((v : Int) % 256)] by simp [bV, UInt8.toNat_ofNat']]; exact ho3);clear ho2 ho3 hg2 hi0 hz0 hz1 hz2;refine wp_loop_rounds 2 ?_;rw [rounds_succ]
 go_wp2_with fail
 rw [rounds_succ]
 go_wp2_with fail
 refine aH (v := .tuple #[.string ⟨#[UInt8.ofNat v]⟩, I0]) ?_ rfl ⟨rfl, (hb2.setCell (p := ⟨w.heap.size, 0, none⟩) (ah _) _)⟩
 simp [results, Tryz.f159]
theorem vG (v : Nat) (hv : v < 65536) (w : World) :
  Cr 159 #[.int .i64 (v : Int), .int .i64 2] w (.tuple #[.string ⟨#[UInt8.ofNat (v / 256), UInt8.ofNat v]⟩, I0]) := by
 obtain ⟨i0, hi0, hz0, hz1, hz2⟩ := info_parts Tryz.infoByte;have g0 : decide ((v : Int) < 0) = false := an (by omega);have g0' : (v : Int) / 65536 = 0 := by omega
 have g1 : ((v : Int) / 65536 != 0) = false := by rw [g0']; rfl
 clear g0' hv;have g2 : (v : Int) >>> (16 : Nat) = (v : Int) / 65536 := by rw [Int.shiftRight_eq_div_pow]; rfl
 go_enter Tryz.func159, Tryz.ntmps159
 go_wp2_with (refine wpList_make_full _ rfl (.tmp 25) (.tmp 25) 39 rfl w.heap.size 5 i0 (.int .u8 0) 1 Tryz.underlying39 hi0 hz0 hz1 .i64 .i64 2 2 2 rfl rfl rfl rfl (by rw [hz2]; omega) (by unfold maxLen; omega) (ah _) ?_; intro w2 ho2 hg2)
 have hmc : (madeCells (Value.int .u8 0).cells (2 * 1)).toList = [.int .u8 0, .int .u8 0] := by kernel_rfl
 rw [hmc] at ho2;clear hmc;have hb2 : Below w.heap.size w w2 := (aq w.heap.size w).grown hg2 (ah _) (fun b hb => by cases hb);obtain ⟨c0, z0⟩ := cJ (i := 1) (x := .int .u8 0) ho2 rfl;have ho3 := dH (i := 1) (x := .int .u8 ((v : Int) % 256)) ho2 (by simp);obtain ⟨c1, z1⟩ := cJ (i := 0) (x := .int .u8 0) ho3 rfl;have ho4 := dH (i := 0) (x := .int .u8 ((v : Int) / 256 % 256)) ho3 (by simp);have hcv := eI (P := Tryz.prog) _ 39 9 5 w.heap.size _ [UInt8.ofNat (v / 256), UInt8.ofNat v] Tryz.underlying39 Tryz.underlying5 Tryz.underlying9 (by rw [show bV [UInt8.ofNat (v / 256), UInt8.ofNat v] = [.int .u8 ((v : Int) / 256 % 256), .int .u8 ((v : Int) % 256)] by simp [bV, UInt8.toNat_ofNat']]; exact ho4);clear ho2 ho3 ho4 hg2 hi0 hz0 hz1 hz2;refine wp_loop_rounds 3 ?_;rw [rounds_succ]
 go_wp2_with fail
 rw [rounds_succ]
 go_wp2_with fail
 rw [rounds_succ]
 go_wp2_with fail
 refine aH (v := .tuple #[.string ⟨#[UInt8.ofNat (v / 256), UInt8.ofNat v]⟩, I0]) ?_ rfl ⟨rfl, ((hb2.setCell (p := ⟨w.heap.size, 1, none⟩) (ah _) _).setCell (p := ⟨w.heap.size, 0, none⟩) (ah _) _)⟩
 simp [results, Tryz.f159]
theorem vH (v : Nat) (hv : v < 16777216) (w : World) :
  Cr 159 #[.int .i64 (v : Int), .int .i64 3] w (.tuple #[.string ⟨#[UInt8.ofNat (v / 65536), UInt8.ofNat (v / 256), UInt8.ofNat v]⟩, I0]) := by
 obtain ⟨i0, hi0, hz0, hz1, hz2⟩ := info_parts Tryz.infoByte;have g0 : decide ((v : Int) < 0) = false := an (by omega);have g0' : (v : Int) / 16777216 = 0 := by omega
 have g1 : ((v : Int) / 16777216 != 0) = false := by rw [g0']; rfl
 clear g0' hv;have g2 : (v : Int) >>> (24 : Nat) = (v : Int) / 16777216 := by rw [Int.shiftRight_eq_div_pow]; rfl
 go_enter Tryz.func159, Tryz.ntmps159
 go_wp2_with (refine wpList_make_full _ rfl (.tmp 25) (.tmp 25) 39 rfl w.heap.size 5 i0 (.int .u8 0) 1 Tryz.underlying39 hi0 hz0 hz1 .i64 .i64 3 3 3 rfl rfl rfl rfl (by rw [hz2]; omega) (by unfold maxLen; omega) (ah _) ?_; intro w2 ho2 hg2)
 have hmc : (madeCells (Value.int .u8 0).cells (3 * 1)).toList = [.int .u8 0, .int .u8 0, .int .u8 0] := by kernel_rfl
 rw [hmc] at ho2;clear hmc;have hb2 : Below w.heap.size w w2 := (aq w.heap.size w).grown hg2 (ah _) (fun b hb => by cases hb);obtain ⟨c0, z0⟩ := cJ (i := 2) (x := .int .u8 0) ho2 rfl;have ho3 := dH (i := 2) (x := .int .u8 ((v : Int) % 256)) ho2 (by simp);obtain ⟨c1, z1⟩ := cJ (i := 1) (x := .int .u8 0) ho3 rfl;have ho4 := dH (i := 1) (x := .int .u8 ((v : Int) / 256 % 256)) ho3 (by simp);obtain ⟨c2, z2⟩ := cJ (i := 0) (x := .int .u8 0) ho4 rfl;have ho5 := dH (i := 0) (x := .int .u8 ((v : Int) / 65536 % 256)) ho4 (by simp);have hcv := eI (P := Tryz.prog) _ 39 9 5 w.heap.size _ [UInt8.ofNat (v / 65536), UInt8.ofNat (v / 256), UInt8.ofNat v] Tryz.underlying39 Tryz.underlying5 Tryz.underlying9 (by rw [show bV [UInt8.ofNat (v / 65536), UInt8.ofNat (v / 256), UInt8.ofNat v] = [.int .u8 ((v : Int) / 65536 % 256), .int .u8 ((v : Int) / 256 % 256), .int .u8 ((v : Int) % 256)] by simp [bV, UInt8.toNat_ofNat']]; exact ho5);clear ho2 ho3 ho4 ho5 hg2 hi0 hz0 hz1 hz2;refine wp_loop_rounds 4 ?_;rw [rounds_succ]
 go_wp2_with fail
 rw [rounds_succ]
 go_wp2_with fail
 rw [rounds_succ]
 go_wp2_with fail
 rw [rounds_succ]
 go_wp2_with fail
 refine aH (v := .tuple #[.string ⟨#[UInt8.ofNat (v / 65536), UInt8.ofNat (v / 256), UInt8.ofNat v]⟩, I0]) ?_ rfl ⟨rfl, (((hb2.setCell (p := ⟨w.heap.size, 2, none⟩) (ah _) _).setCell (p := ⟨w.heap.size, 1, none⟩) (ah _) _).setCell (p := ⟨w.heap.size, 0, none⟩) (ah _) _)⟩
 simp [results, Tryz.f159]
theorem st (n : Nat) (h1 : 128 ≤ n) (h2 : n < 256) (w : World) : Cr 109 #[.int .i64 (n : Int)] w (.string ⟨(cd n).toArray⟩) := by
 have hl : (⟨(cd n).toArray⟩ : ByteArray) = ⟨#[129]⟩ ++ ⟨#[UInt8.ofNat n]⟩ := by
  unfold cd;rw [if_neg (by omega)]; rw [if_pos (by omega)]
  rfl
 rw [hl];have g1 : decide ((n : Int) < 128) = false := an (by omega);have t1' : (n : Int) / 256 = 0 := by omega
 have t1 : ((n : Int) / 256 != 0) = false := by rw [t1']; rfl
 clear t1';have kp := vF n h2 w;clear hl h1 h2
 go_enter Tryz.func109, Tryz.ntmps109
 go_wp2_with fail
 refine wp_loop_rounds 1 ?_;rw [rounds_succ]
 go_wp2_with fail
 refine ag kp ?_;rintro e w2 ⟨rfl, b2⟩;clear kp;have hcv : (convert 39 9 (.slice (some ⟨w2.heap.size, 0, none⟩) 1 1)).run Tryz.prog (w2.alloc (.cells #[.int .u8 129] 5)) = .ok (.string ⟨#[129]⟩) (w2.alloc (.cells #[.int .u8 129] 5)) :=
  eU _ _ _ 5 _ 1 [129] Tryz.underlying39 Tryz.underlying5 Tryz.underlying9 (by rw [show bV [129] = [.int .u8 129] by rfl]; exact World.news_of_block (bi _ _ _ rfl))
 have b3 : Below w.heap.size w (w2.alloc (.cells #[.int .u8 129] 5)) := b2.alloc b2.size _
 go_wp2_with fail
 go_ret
 exact ⟨rfl, b3⟩
theorem su (n : Nat) (h1 : 256 ≤ n) (h2 : n < 65536) (w : World) : Cr 109 #[.int .i64 (n : Int)] w (.string ⟨(cd n).toArray⟩) := by
 have hl : (⟨(cd n).toArray⟩ : ByteArray) = ⟨#[130]⟩ ++ ⟨#[UInt8.ofNat (n / 256), UInt8.ofNat n]⟩ := by
  unfold cd;rw [if_neg (by omega)]; rw [if_neg (by omega)]; rw [if_pos (by omega)]
  rfl
 rw [hl];have g1 : decide ((n : Int) < 128) = false := an (by omega);have t1' : ¬ (n : Int) / 256 = 0 := by omega
 have t1 : ((n : Int) / 256 != 0) = true := by simpa using t1'
 have t2' : (n : Int) / 65536 = 0 := by omega
 have t2 : ((n : Int) / 65536 != 0) = false := by rw [t2']; rfl
 clear t1' t2';have kp := vG n h2 w;clear hl h1 h2
 go_enter Tryz.func109, Tryz.ntmps109
 go_wp2_with fail
 refine wp_loop_rounds 2 ?_;rw [rounds_succ]
 go_wp2_with fail
 rw [rounds_succ]
 go_wp2_with fail
 refine ag kp ?_;rintro e w2 ⟨rfl, b2⟩;clear kp;have hcv : (convert 39 9 (.slice (some ⟨w2.heap.size, 0, none⟩) 1 1)).run Tryz.prog (w2.alloc (.cells #[.int .u8 130] 5)) = .ok (.string ⟨#[130]⟩) (w2.alloc (.cells #[.int .u8 130] 5)) :=
  eU _ _ _ 5 _ 1 [130] Tryz.underlying39 Tryz.underlying5 Tryz.underlying9 (by rw [show bV [130] = [.int .u8 130] by rfl]; exact World.news_of_block (bi _ _ _ rfl))
 have b3 : Below w.heap.size w (w2.alloc (.cells #[.int .u8 130] 5)) := b2.alloc b2.size _
 go_wp2_with fail
 go_ret
 exact ⟨rfl, b3⟩
theorem sv (n : Nat) (h1 : 65536 ≤ n) (h2 : n < 16777216) (w : World) : Cr 109 #[.int .i64 (n : Int)] w (.string ⟨(cd n).toArray⟩) := by
 have hl : (⟨(cd n).toArray⟩ : ByteArray) = ⟨#[131]⟩ ++ ⟨#[UInt8.ofNat (n / 65536), UInt8.ofNat (n / 256), UInt8.ofNat n]⟩ := by
  unfold cd;rw [if_neg (by omega)]; rw [if_neg (by omega)]; rw [if_neg (by omega)]
  rfl
 rw [hl];have g1 : decide ((n : Int) < 128) = false := an (by omega);have t1' : ¬ (n : Int) / 256 = 0 := by omega
 have t1 : ((n : Int) / 256 != 0) = true := by simpa using t1'
 have t2' : ¬ (n : Int) / 65536 = 0 := by omega
 have t2 : ((n : Int) / 65536 != 0) = true := by simpa using t2'
 have t3' : (n : Int) / 16777216 = 0 := by omega
 have t3 : ((n : Int) / 16777216 != 0) = false := by rw [t3']; rfl
 clear t1' t2' t3';have kp := vH n h2 w;clear hl h1 h2
 go_enter Tryz.func109, Tryz.ntmps109
 go_wp2_with fail
 refine wp_loop_rounds 3 ?_;rw [rounds_succ]
 go_wp2_with fail
 rw [rounds_succ]
 go_wp2_with fail
 rw [rounds_succ]
 go_wp2_with fail
 refine ag kp ?_;rintro e w2 ⟨rfl, b2⟩;clear kp;have hcv : (convert 39 9 (.slice (some ⟨w2.heap.size, 0, none⟩) 1 1)).run Tryz.prog (w2.alloc (.cells #[.int .u8 131] 5)) = .ok (.string ⟨#[131]⟩) (w2.alloc (.cells #[.int .u8 131] 5)) :=
  eU _ _ _ 5 _ 1 [131] Tryz.underlying39 Tryz.underlying5 Tryz.underlying9 (by rw [show bV [131] = [.int .u8 131] by rfl]; exact World.news_of_block (bi _ _ _ rfl))
 have b3 : Below w.heap.size w (w2.alloc (.cells #[.int .u8 131] 5)) := b2.alloc b2.size _
 go_wp2_with fail
 go_ret
 exact ⟨rfl, b3⟩
theorem pC : jw 65537 := by
 intro n hn w
 by_cases h1 : n < 128
 ·exact mx n (by omega) w
 ·by_cases h2 : n < 256
  ·exact st n (by omega) h2 w
  ·by_cases h3 : n < 65536
   ·exact su n (by omega) h3 w
   ·exact sv n (by omega) (by omega) w
def sgB (v : Nat) : List UInt8 :=
 if v < 128 then [UInt8.ofNat v] else if v < 32768 then [UInt8.ofNat (v / 256), UInt8.ofNat v] else if v < 8388608 then [UInt8.ofNat (v / 65536), UInt8.ofNat (v / 256), UInt8.ofNat v] else [UInt8.ofNat (v / 16777216), UInt8.ofNat (v / 65536), UInt8.ofNat (v / 256), UInt8.ofNat v]
theorem nT (v : Nat) (hlo : 128 ≤ v) (hv : v < 32768) (w : World) :
  Cr 113 #[.int .i64 (v : Int)] w (.string ⟨#[UInt8.ofNat (v / 256), UInt8.ofNat v]⟩) := by
 obtain ⟨i0, hi0, hz0, hz1, hz2⟩ := info_parts Tryz.infoByte;have u0 : (v : Int) % 18446744073709551616 = (v : Int) := by omega
 have n1 : ((v : Int) != wrap64 ((v : Int) * 72057594037927936) / 72057594037927936) = true := by
  unfold wrap64;simp only [bne_iff_ne, ne_eq]; omega
 have n2 : ((v : Int) != wrap64 ((v : Int) * 281474976710656) / 281474976710656) = false := by
  unfold wrap64;simp only [bne_eq_false_iff_eq]; omega
 go_enter Tryz.func113, Tryz.ntmps113
 go_wp2_with fail
 refine wp_loop_rounds 2 ?_;rw [rounds_succ]
 go_wp2_with (refine wpList_make_full _ rfl (.tmp 23) (.tmp 23) 39 rfl w.heap.size 5 i0 (.int .u8 0) 1 Tryz.underlying39 hi0 hz0 hz1 .i64 .i64 2 2 2 rfl rfl rfl rfl (by rw [hz2]; omega) (by unfold maxLen; omega) (ah _) ?_; intro w2 ho2 hg2)
 rw [rounds_succ]
 go_wp2_with (refine wpList_make_full _ rfl (.tmp 23) (.tmp 23) 39 rfl w.heap.size 5 i0 (.int .u8 0) 1 Tryz.underlying39 hi0 hz0 hz1 .i64 .i64 2 2 2 rfl rfl rfl rfl (by rw [hz2]; omega) (by unfold maxLen; omega) (ah _) ?_; intro w2 ho2 hg2)
 clear hlo hv;have hmc : (madeCells (Value.int .u8 0).cells (2 * 1)).toList = [.int .u8 0, .int .u8 0] := by kernel_rfl
 rw [hmc] at ho2;clear hmc;have hb2 : Below w.heap.size w w2 := (aq w.heap.size w).grown hg2 (ah _) (fun b hb => by cases hb);obtain ⟨c0, z0⟩ := cJ (i := 1) (x := .int .u8 0) ho2 rfl;have ho3 := dH (i := 1) (x := .int .u8 ((v : Int) % 256)) ho2 (by simp);obtain ⟨c1, z1⟩ := cJ (i := 0) (x := .int .u8 0) ho3 rfl;have ho4 := dH (i := 0) (x := .int .u8 ((v : Int) / 256 % 256)) ho3 (by simp);have hcv := eI (P := Tryz.prog) _ 39 9 5 w.heap.size _ [UInt8.ofNat (v / 256), UInt8.ofNat v] Tryz.underlying39 Tryz.underlying5 Tryz.underlying9 (by rw [show bV [UInt8.ofNat (v / 256), UInt8.ofNat v] = [.int .u8 ((v : Int) / 256 % 256), .int .u8 ((v : Int) % 256)] by simp [bV, UInt8.toNat_ofNat']]; exact ho4);clear ho2 ho3 ho4 hg2 hi0 hz0 hz1 hz2;refine wp_loop_rounds 3 ?_;rw [rounds_succ]
 go_wp2_with fail
 rw [rounds_succ]
 go_wp2_with fail
 rw [rounds_succ]
 go_wp2_with fail
 go_ret
 exact ⟨rfl, ((hb2.setCell (p := ⟨w.heap.size, 1, none⟩) (ah _) _).setCell (p := ⟨w.heap.size, 0, none⟩) (ah _) _)⟩
theorem nU (v : Nat) (hlo : 32768 ≤ v) (hv : v < 8388608) (w : World) :
  Cr 113 #[.int .i64 (v : Int)] w (.string ⟨#[UInt8.ofNat (v / 65536), UInt8.ofNat (v / 256), UInt8.ofNat v]⟩) := by
 obtain ⟨i0, hi0, hz0, hz1, hz2⟩ := info_parts Tryz.infoByte;have u0 : (v : Int) % 18446744073709551616 = (v : Int) := by omega
 have n1 : ((v : Int) != wrap64 ((v : Int) * 72057594037927936) / 72057594037927936) = true := by
  unfold wrap64;simp only [bne_iff_ne, ne_eq]; omega
 have n2 : ((v : Int) != wrap64 ((v : Int) * 281474976710656) / 281474976710656) = true := by
  unfold wrap64;simp only [bne_iff_ne, ne_eq]; omega
 have n3 : ((v : Int) != wrap64 ((v : Int) * 1099511627776) / 1099511627776) = false := by
  unfold wrap64;simp only [bne_eq_false_iff_eq]; omega
 go_enter Tryz.func113, Tryz.ntmps113
 go_wp2_with fail
 refine wp_loop_rounds 3 ?_;rw [rounds_succ]
 go_wp2_with (refine wpList_make_full _ rfl (.tmp 23) (.tmp 23) 39 rfl w.heap.size 5 i0 (.int .u8 0) 1 Tryz.underlying39 hi0 hz0 hz1 .i64 .i64 3 3 3 rfl rfl rfl rfl (by rw [hz2]; omega) (by unfold maxLen; omega) (ah _) ?_; intro w2 ho2 hg2)
 rw [rounds_succ]
 go_wp2_with (refine wpList_make_full _ rfl (.tmp 23) (.tmp 23) 39 rfl w.heap.size 5 i0 (.int .u8 0) 1 Tryz.underlying39 hi0 hz0 hz1 .i64 .i64 3 3 3 rfl rfl rfl rfl (by rw [hz2]; omega) (by unfold maxLen; omega) (ah _) ?_; intro w2 ho2 hg2)
 rw [rounds_succ]
 go_wp2_with (refine wpList_make_full _ rfl (.tmp 23) (.tmp 23) 39 rfl w.heap.size 5 i0 (.int .u8 0) 1 Tryz.underlying39 hi0 hz0 hz1 .i64 .i64 3 3 3 rfl rfl rfl rfl (by rw [hz2]; omega) (by unfold maxLen; omega) (ah _) ?_; intro w2 ho2 hg2)
 clear hlo hv;have hmc : (madeCells (Value.int .u8 0).cells (3 * 1)).toList = [.int .u8 0, .int .u8 0, .int .u8 0] := by kernel_rfl
 rw [hmc] at ho2;clear hmc;have hb2 : Below w.heap.size w w2 := (aq w.heap.size w).grown hg2 (ah _) (fun b hb => by cases hb);obtain ⟨c0, z0⟩ := cJ (i := 2) (x := .int .u8 0) ho2 rfl;have ho3 := dH (i := 2) (x := .int .u8 ((v : Int) % 256)) ho2 (by simp);obtain ⟨c1, z1⟩ := cJ (i := 1) (x := .int .u8 0) ho3 rfl;have ho4 := dH (i := 1) (x := .int .u8 ((v : Int) / 256 % 256)) ho3 (by simp);obtain ⟨c2, z2⟩ := cJ (i := 0) (x := .int .u8 0) ho4 rfl;have ho5 := dH (i := 0) (x := .int .u8 ((v : Int) / 65536 % 256)) ho4 (by simp);have hcv := eI (P := Tryz.prog) _ 39 9 5 w.heap.size _ [UInt8.ofNat (v / 65536), UInt8.ofNat (v / 256), UInt8.ofNat v] Tryz.underlying39 Tryz.underlying5 Tryz.underlying9 (by rw [show bV [UInt8.ofNat (v / 65536), UInt8.ofNat (v / 256), UInt8.ofNat v] = [.int .u8 ((v : Int) / 65536 % 256), .int .u8 ((v : Int) / 256 % 256), .int .u8 ((v : Int) % 256)] by simp [bV, UInt8.toNat_ofNat']]; exact ho5);clear ho2 ho3 ho4 ho5 hg2 hi0 hz0 hz1 hz2;refine wp_loop_rounds 4 ?_;rw [rounds_succ]
 go_wp2_with fail
 rw [rounds_succ]
 go_wp2_with fail
 rw [rounds_succ]
 go_wp2_with fail
 rw [rounds_succ]
 go_wp2_with fail
 go_ret
 exact ⟨rfl, (((hb2.setCell (p := ⟨w.heap.size, 2, none⟩) (ah _) _).setCell (p := ⟨w.heap.size, 1, none⟩) (ah _) _).setCell (p := ⟨w.heap.size, 0, none⟩) (ah _) _)⟩
theorem nV (v : Nat) (hlo : 8388608 ≤ v) (hv : v < 2147483648) (w : World) :
  Cr 113 #[.int .i64 (v : Int)] w (.string ⟨#[UInt8.ofNat (v / 16777216), UInt8.ofNat (v / 65536), UInt8.ofNat (v / 256), UInt8.ofNat v]⟩) := by
 obtain ⟨i0, hi0, hz0, hz1, hz2⟩ := info_parts Tryz.infoByte;have u0 : (v : Int) % 18446744073709551616 = (v : Int) := by omega
 have n1 : ((v : Int) != wrap64 ((v : Int) * 72057594037927936) / 72057594037927936) = true := by
  unfold wrap64;simp only [bne_iff_ne, ne_eq]; omega
 have n2 : ((v : Int) != wrap64 ((v : Int) * 281474976710656) / 281474976710656) = true := by
  unfold wrap64;simp only [bne_iff_ne, ne_eq]; omega
 have n3 : ((v : Int) != wrap64 ((v : Int) * 1099511627776) / 1099511627776) = true := by
  unfold wrap64;simp only [bne_iff_ne, ne_eq]; omega
 have n4 : ((v : Int) != wrap64 ((v : Int) * 4294967296) / 4294967296) = false := by
  unfold wrap64;simp only [bne_eq_false_iff_eq]; omega
 go_enter Tryz.func113, Tryz.ntmps113
 go_wp2_with fail
 refine wp_loop_rounds 4 ?_;rw [rounds_succ]
 go_wp2_with (refine wpList_make_full _ rfl (.tmp 23) (.tmp 23) 39 rfl w.heap.size 5 i0 (.int .u8 0) 1 Tryz.underlying39 hi0 hz0 hz1 .i64 .i64 4 4 4 rfl rfl rfl rfl (by rw [hz2]; omega) (by unfold maxLen; omega) (ah _) ?_; intro w2 ho2 hg2)
 rw [rounds_succ]
 go_wp2_with (refine wpList_make_full _ rfl (.tmp 23) (.tmp 23) 39 rfl w.heap.size 5 i0 (.int .u8 0) 1 Tryz.underlying39 hi0 hz0 hz1 .i64 .i64 4 4 4 rfl rfl rfl rfl (by rw [hz2]; omega) (by unfold maxLen; omega) (ah _) ?_; intro w2 ho2 hg2)
 rw [rounds_succ]
 go_wp2_with (refine wpList_make_full _ rfl (.tmp 23) (.tmp 23) 39 rfl w.heap.size 5 i0 (.int .u8 0) 1 Tryz.underlying39 hi0 hz0 hz1 .i64 .i64 4 4 4 rfl rfl rfl rfl (by rw [hz2]; omega) (by unfold maxLen; omega) (ah _) ?_; intro w2 ho2 hg2)
 rw [rounds_succ]
 go_wp2_with (refine wpList_make_full _ rfl (.tmp 23) (.tmp 23) 39 rfl w.heap.size 5 i0 (.int .u8 0) 1 Tryz.underlying39 hi0 hz0 hz1 .i64 .i64 4 4 4 rfl rfl rfl rfl (by rw [hz2]; omega) (by unfold maxLen; omega) (ah _) ?_; intro w2 ho2 hg2)
 clear hlo hv;have hmc : (madeCells (Value.int .u8 0).cells (4 * 1)).toList = [.int .u8 0, .int .u8 0, .int .u8 0, .int .u8 0] := by kernel_rfl
 rw [hmc] at ho2;clear hmc;have hb2 : Below w.heap.size w w2 := (aq w.heap.size w).grown hg2 (ah _) (fun b hb => by cases hb);obtain ⟨c0, z0⟩ := cJ (i := 3) (x := .int .u8 0) ho2 rfl;have ho3 := dH (i := 3) (x := .int .u8 ((v : Int) % 256)) ho2 (by simp);obtain ⟨c1, z1⟩ := cJ (i := 2) (x := .int .u8 0) ho3 rfl;have ho4 := dH (i := 2) (x := .int .u8 ((v : Int) / 256 % 256)) ho3 (by simp);obtain ⟨c2, z2⟩ := cJ (i := 1) (x := .int .u8 0) ho4 rfl;have ho5 := dH (i := 1) (x := .int .u8 ((v : Int) / 65536 % 256)) ho4 (by simp);obtain ⟨c3, z3⟩ := cJ (i := 0) (x := .int .u8 0) ho5 rfl;have ho6 := dH (i := 0) (x := .int .u8 ((v : Int) / 16777216 % 256)) ho5 (by simp);have hcv := eI (P := Tryz.prog) _ 39 9 5 w.heap.size _ [UInt8.ofNat (v / 16777216), UInt8.ofNat (v / 65536), UInt8.ofNat (v / 256), UInt8.ofNat v] Tryz.underlying39 Tryz.underlying5 Tryz.underlying9 (by rw [show bV [UInt8.ofNat (v / 16777216), UInt8.ofNat (v / 65536), UInt8.ofNat (v / 256), UInt8.ofNat v] = [.int .u8 ((v : Int) / 16777216 % 256), .int .u8 ((v : Int) / 65536 % 256), .int .u8 ((v : Int) / 256 % 256), .int .u8 ((v : Int) % 256)] by simp [bV, UInt8.toNat_ofNat']]; exact ho6);clear ho2 ho3 ho4 ho5 ho6 hg2 hi0 hz0 hz1 hz2;refine wp_loop_rounds 5 ?_;rw [rounds_succ]
 go_wp2_with fail
 rw [rounds_succ]
 go_wp2_with fail
 rw [rounds_succ]
 go_wp2_with fail
 rw [rounds_succ]
 go_wp2_with fail
 rw [rounds_succ]
 go_wp2_with fail
 go_ret
 exact ⟨rfl, ((((hb2.setCell (p := ⟨w.heap.size, 3, none⟩) (ah _) _).setCell (p := ⟨w.heap.size, 2, none⟩) (ah _) _).setCell (p := ⟨w.heap.size, 1, none⟩) (ah _) _).setCell (p := ⟨w.heap.size, 0, none⟩) (ah _) _)⟩
theorem lV (v : Nat) (hv : v ≤ 2147483647) (w : World) :
  Cr 113 #[.int .i64 (v : Int)] w (.string ⟨(sgB v).toArray⟩) := by
 unfold sgB
 split
 ·exact gZ v (by omega) w
 ·split
  ·exact nT v (by omega) (by omega) w
  ·split
   ·exact nU v (by omega) (by omega) w
   ·exact nV v (by omega) (by omega) w
theorem eg (v : Nat) : 1 ≤ (sgB v).length ∧ (sgB v).length ≤ 4 := by
 unfold sgB
 repeat' split
 all_goals simp
theorem eO (t : Int) (v : Nat) (hv : v ≤ 2147483647) (w : World) :
  Cr 72 #[.int .i64 t, .int .i64 (v : Int)] w (.agg (elA (.mk 0 t false (sgB v) []) (.slice none 0 0))) := by
 have hb := alb w Ze 45;have hr := alz w Ze 45;have k := lV v hv (w.alloc (.cells Ze 45));obtain ⟨bs, hbs⟩ : ∃ bs, sgB v = bs := ⟨_, rfl⟩;rw [hbs] at k ⊢;clear hbs
 go_enter Tryz.func72, Tryz.ntmps72
 go_wp2_with fail
 refine ag k ?_;rintro e w1 ⟨rfl, hb1⟩;have hr1 := (hb1.block _ (gl hr)).trans hr;have hbb := hb.trans (hb1.mono hb.size);have k2 := im t bs w1;clear k hr hb hb1
 go_wp2_with fail
 refine ag k2 ?_;rintro e w2 ⟨rfl, hb2⟩;have hr2 := (hb2.block _ (gl hr1)).trans hr1;have hb3 := hbb.trans (hb2.mono hbb.size);clear hr1 hb2 hbb k2;have hq := setRow_heap w2 w.heap.size _ #[I0, .int .i64 t, Bf, .string ⟨bs.toArray⟩, .slice none 0 0] _ _ hr2;have hb4 := bm hb3 (g := w.heap.size) (ah _) #[I0, .int .i64 t, Bf, .string ⟨bs.toArray⟩, .slice none 0 0]
 go_wp2_with (refine bh rfl 45 (.tmp 4) (.tmp 8) rfl w.heap.size 45 _ #[I0, .int .i64 t, Bf, .string ⟨bs.toArray⟩, .slice none 0 0] (by rfl) (by rfl) hr2 (by rfl) (by rfl) (by simp [Value.oneCell']) ?_)
 all_goals refine aH (v := .agg #[I0, .int .i64 t, Bf, .string ⟨bs.toArray⟩, .slice none 0 0]) ?_ rfl ⟨rfl, hb4⟩
 all_goals have hr := aJ (P := Tryz.prog) (w2.setRow w.heap.size #[I0, .int .i64 t, Bf, .string ⟨bs.toArray⟩, .slice none 0 0]) (w.heap.size) 45 45 #[I0, .int .i64 t, Bf, .string ⟨bs.toArray⟩, .slice none 0 0] (0, 0) _ hq (show Tryz.prog.underlying 45 = _ from Tryz.underlying45) (by rfl) (by rfl)
 all_goals simp [results, Tryz.f72]
 all_goals exact hr
def ct (w : World) (v : Value) (ls : List (List UInt8)) : Prop :=
 ∃ a cap, v = .slice a ls.length cap ∧ ls.length ≤ cap ∧ (ls ≠ [] → ∃ g o, a = some ⟨g, o, none⟩ ∧ ∀ (j : Nat) (x : List UInt8), ls[j]? = some x → w.cell? ⟨g, o + j, none⟩ = some (.string ⟨x.toArray⟩))
theorem ct.below {w w' : World} {v : Value} {ls : List (List UInt8)} (h : ct w v ls) (hb : Below w.heap.size w w') : ct w' v ls := by
 obtain ⟨a, cap, hv, hc, hr⟩ := h;refine ⟨a, cap, hv, hc, fun h0 => ?_⟩;obtain ⟨g, o, ha, hcell⟩ := hr h0;exact ⟨g, o, ha, fun j x hj => (hb.cell (bj (hcell j x hj))).trans (hcell j x hj)⟩
def eG (w : World) (v : Value) (al : List (List UInt8 × List (List UInt8))) : Prop :=
 ∃ a cap, v = .slice a al.length cap ∧ al.length ≤ cap ∧ (al ≠ [] → ∃ g o, a = some ⟨g, o, none⟩ ∧ ∀ (j : Nat) (x : List UInt8 × List (List UInt8)), al[j]? = some x → w.cell? ⟨g, o + j * 2, none⟩ = some (.string ⟨x.1.toArray⟩) ∧ ∃ u, w.cell? ⟨g, o + j * 2 + 1, none⟩ = some u ∧ ct w u x.2)
theorem eG.below {w w' : World} {v : Value} {al : List (List UInt8 × List (List UInt8))} (h : eG w v al) (hb : Below w.heap.size w w') : eG w' v al := by
 obtain ⟨a, cap, hv, hc, hr⟩ := h;refine ⟨a, cap, hv, hc, fun h0 => ?_⟩;obtain ⟨g, o, ha, hcell⟩ := hr h0;refine ⟨g, o, ha, fun j x hj => ?_⟩;obtain ⟨h1, u, h2, h3⟩ := hcell j x hj;exact ⟨(hb.cell (bj h1)).trans h1, u, (hb.cell (bj h2)).trans h2, h3.below hb⟩
def cP (s : List UInt8) : El := .mk 0 4 false s []
def bI (x : List UInt8 × List (List UInt8)) : El := .mk 0 16 true [] [cP x.1, .mk 0 17 true [] (x.2.map cP)]
def vI (w : World) (ls : List (List UInt8)) (v i : Value) (wr : World) : Prop :=
 ∃ k : Nat, i = .int .i64 (k : Int) ∧ k ≤ ls.length ∧ bJ w.heap.size wr v ((ls.take k).map cP) ∧ Below w.heap.size w wr
theorem lN (vs : Value) (ls : List (List UInt8)) (w : World) (h : ct w vs ls) (hl : ls.length ≤ 100000000) :
  Calls Tryz.prog 120 #[vs] w fun e w' => (∃ v, e = .returned v ∧ bJ w.heap.size w' v (ls.map cP)) ∧ Below w.heap.size w w' := by
 obtain ⟨a, cap, rfl, hcap, hcells⟩ := h;have HC := hid hcells;clear hcells
 go_enter Tryz.func120, Tryz.ntmps120
 go_wp2_with fail
 go_loopw [3, 5, 8] (fun v _ i wr => vI w ls v i wr) (fun _ _ i _ => ls.length - (RowKit.intOf i).toNat)
 case atStart => exact ⟨0, rfl, Nat.zero_le _, bJ.nil _ _, aq _ _⟩
 case round =>
  obtain ⟨k, rfl, hk, hown, hbe⟩ := hrel;obtain ⟨av, cv, hsh⟩ := hown.shape;subst hsh;have hlen : ((ls.take k).map cP).length = k := by simp; omega
  rw [hlen] at hown ⊢
  by_cases hkl : k < ls.length
  ·obtain ⟨s, hs⟩ : ∃ s, ls[k]? = some s := ⟨_, by simp [hkl]; rfl⟩
   obtain ⟨g, o, ha, hc⟩ := HC.out (by intro h0; rw [h0] at hkl; simp at hkl);subst ha;have q0 := (hbe.cell (bj (hc k s hs))).trans (hc k s hs);have i1 : decide ((k : Int) < (ls.length : Int)) = true := aA (by omega);have i2 : (k : Int) < (ls.length : Int) := by omega
   have HO := hid hown;have HS := hid hs;have hszr := hbe.size;have kc := bz s wr;clear hc hs hown
   go_wp2_with fail
   refine ag kc ?_;rintro e w2 ⟨rfl, hb2⟩;clear q0 kc;have o2 := HO.out.below hb2;have b2 := hbe.trans (hb2.mono hszr);simp only [elA, El.cls, El.tag, El.cons, El.bytes];have g3 := alb w2 #[I0, .int .i64 4, Bf, .string ⟨s.toArray⟩, Sn] 45;have x3 : (w2.alloc (.cells #[I0, .int .i64 4, Bf, .string ⟨s.toArray⟩, Sn] 45)).heap[w2.heap.size]? = some (.cells (elA (cP s) (Sn)) 45 (0, 0)) := bi _ _ _ rfl;have o3 := o2.below g3;have b3 := b2.trans (g3.mono b2.size);have hs3 := b3.size;have O3 := hid o3;have X3 := hid x3;have B3 := hid b3;clear o2 b2 g3 o3 x3 b3 hb2 hbe
   go_wp2_with (at_builtin; refine bO rfl (.tmp 12) (.tmp 15) rfl w.heap.size (.slice av k cv) ((ls.take k).map cP) rfl O3.out (cP s) none 0 0 w2.heap.size rfl X3.out (bf.nil _ _) (by omega) hs3 ?_; rw [hlen]; intro a' c' w5 ho5 hg5)
   have hts : (ls.take (k + 1)).map cP = (ls.take k).map cP ++ [cP s] := by rw [List.take_add_one, HS.out]; simp
   have b5 := B3.out.grown hg5 hs3 (fun b hb => (O3.out.lt hb).1);exact ⟨⟨k + 1, by go_num, by omega, by rw [hts]; exact ho5, b5⟩, by simp [RowKit.intOf]; omega⟩
  ·obtain rfl : k = ls.length := by omega
   rw [List.take_of_length_le (ah _)] at hown;have HO := hid hown;clear hown
   go_wp2_with fail
   go_ret
   exact ⟨⟨_, rfl, HO.out⟩, hbe⟩
theorem gB (ls : List (List UInt8)) (h : ∀ s ∈ ls, s.length ≤ 1000000000) : SmL (ls.map cP) := by
 induction ls with
 | nil => simp only [List.map_nil, SmL]
 | cons s r ih =>
  simp only [List.map_cons, SmL, cP, SmE];exact ⟨⟨h s (by simp), by simp, trivial⟩, ih fun x hx => h x (by simp [hx])⟩
theorem mS (t : List UInt8) (vs : Value) (ls : List (List UInt8)) (w : World) (h : ct w vs ls) (hl : ls.length ≤ 100000000) (ht : t.length ≤ 1000000000) (hs : ∀ s ∈ ls, s.length ≤ 1000000000) :
  Calls Tryz.prog 162 #[.string ⟨t.toArray⟩, vs] w fun e w' => (∃ u, e = .returned (.agg (elA (bI (t, ls)) u)) ∧ bf (fun g => w.heap.size ≤ g) w' u (bI (t, ls)).kids) ∧ Below w.heap.size w w' := by
 have b1 := alb w Ze 45;have t1 := alz w Ze 45;have h1 := h.below b1;have HS := hid hs;have HT := hid ht;clear h hs ht
 go_enter Tryz.func162, Tryz.ntmps162
 go_wp2_with fail
 generalize w.alloc (.cells Ze 45) = w1 at b1 t1 h1 ⊢;have k1 := bz t w1;refine ag k1 ?_;rintro e w2 ⟨rfl, hb⟩;have h2 := h1.below hb;have t2 := (hb.block _ (gl t1)).trans t1;have b2 := b1.trans (hb.mono b1.size);clear k1 hb h1 t1 b1;have k2 := lN vs ls w2 h2 hl
 go_wp2_with fail
 refine ag k2 ?_;rintro e w3 ⟨⟨v3, rfl, o3⟩, hb⟩;have t3 := (hb.block _ (gl t2)).trans t2;have b3 := b2.trans (hb.mono b2.size);clear k2 hb h2 t2 b2;have k3 := cH (ls.map cP) v3 w3 o3.kids (gB ls HS.out) (by simp; omega);clear o3
 go_wp2_with fail
 refine ag k3 ?_;rintro e w4 ⟨⟨u4, rfl, hu4⟩, hb⟩;have t4 := (hb.block _ (gl t3)).trans t3;have b4 := b3.trans (hb.mono b3.size);clear k3 hb t3 b3;have hsm : SmE (.mk 0 16 true [] (ls.map cP)) := by
  simp only [SmE];exact ⟨by simp, by simp; omega, gB ls HS.out⟩
 have k4 := jV (.mk 0 16 true [] (ls.map cP)) u4 0 17 w4 (hu4.mono fun _ _ _ => trivial) hsm;clear hu4 hsm
 go_wp2_with fail
 refine ag k4 ?_;rintro e w5 ⟨⟨u5, rfl, hu5⟩, hb⟩;have t5 := (hb.block _ (gl t4)).trans t4;have b5 := b4.trans (hb.mono b4.size);clear k4 hb t4 b4;obtain ⟨a5, c5, hsh⟩ := hu5.shape;subst hsh;have hk6 := f9 (e1 := cP t) (e2 := .mk 0 17 true [] (ls.map cP)) (bf.nil _ w5) (hu5.mono fun _ _ _ => trivial);have g6 := alb w5 #[.int .i64 (cP t).cls, .int .i64 (cP t).tag, .bool (cP t).cons, .string ⟨(cP t).bytes.toArray⟩, Sn, .int .i64 (El.mk 0 17 true [] (ls.map cP)).cls, .int .i64 (El.mk 0 17 true [] (ls.map cP)).tag, .bool (El.mk 0 17 true [] (ls.map cP)).cons, .string ⟨(El.mk 0 17 true [] (ls.map cP)).bytes.toArray⟩, .slice a5 (El.mk 0 17 true [] (ls.map cP)).kids.length c5] 45;have t6 := (g6.block _ (gl t5)).trans t5;have b6 := b5.trans (g6.mono b5.size);simp only [elA, cP, El.cls, El.tag, El.cons, El.bytes, El.kids, List.length_map] at hk6 t6 b6 ⊢;have K6 := hid hk6;have T6 := hid t6;have B6 := hid b6;clear g6 hk6 t6 b6 t5 b5 hu5
 go_wp2_with fail
 generalize w5.alloc (.cells #[I0, .int .i64 4, Bf, .string ⟨t.toArray⟩, Sn, I0, .int .i64 17, .bool true, Es, .slice a5 ls.length c5] 45) = w6 at K6 T6 B6 ⊢;have k6 := cH [cP t, .mk 0 17 true [] (ls.map cP)] _ w6 K6.out (by simp only [SmL, cP, SmE]; exact ⟨⟨HT.out, by simp, trivial⟩, ⟨by simp, by simp; omega, gB ls HS.out⟩, trivial⟩) (by simp);refine ag k6 ?_;rintro e w7 ⟨⟨u, rfl, hu⟩, hb⟩;have t7 := (hb.block _ (gl T6.out)).trans T6.out;have b7 := B6.out.trans (hb.mono B6.out.size);have hs6 := (gl T6.out);clear k6 hb K6 T6 B6;obtain ⟨E, hE⟩ : ∃ E, elA (El.mk 0 16 true [] [cP t, .mk 0 17 true [] (ls.map cP)]) u = E := ⟨_, rfl⟩;have hE1 : E.all (·.oneCell') = true := by
  obtain ⟨a, c, hsl⟩ := hu.shape;subst hsl;rw [← hE]; simp [elA, Value.oneCell']
 have hE2 : E.size = 5 := by rw [← hE]; rfl
 rw [hE];have hsz := (gl t7);have bF := bm b7 (g := w.heap.size) (ah _) E;have tF := setRow_heap w7 w.heap.size _ E _ _ t7;have uF : bf (fun g => w.heap.size ≤ g) (w7.setRow w.heap.size E) u (El.mk 0 16 true [] [cP t, .mk 0 17 true [] (ls.map cP)]).kids := hu.kept fun g hg hl => ⟨setRow_other w7 w.heap.size g E (by omega), by omega⟩
 have HE := hid hE;have HE1 := hid hE1;have HE2 := hid hE2;have UF := hid uF;clear hu hE hE1 hE2 uF b7
 go_wp2_with (refine bh rfl 45 (.tmp 4) (.tmp 12) rfl w.heap.size 45 _ E (by rfl) (by rfl) t7 (by rw [HE2.out]; rfl) (by rw [HE2.out]; rfl) HE1.out ?_)
 refine aH (v := .agg E) ?_ rfl ⟨⟨u, by rw [← HE.out] <;> rfl, UF.out⟩, bF⟩;have hr := aJ (P := Tryz.prog) (w7.setRow w.heap.size E) w.heap.size 45 45 E (0, 0) _ tF (show Tryz.prog.underlying 45 = _ from Tryz.underlying45) (by rfl) (by rw [HE2.out]; rfl)
 simp [results, Tryz.f162]
 exact hr
def vJ (w : World) (al : List (List UInt8 × List (List UInt8))) (v i : Value) (wr : World) : Prop :=
 ∃ k : Nat, i = .int .i64 (k : Int) ∧ k ≤ al.length ∧ bJ w.heap.size wr v ((al.take k).map bI) ∧ Below w.heap.size w wr
def pD (al : List (List UInt8 × List (List UInt8))) : Prop := al.length ≤ 100000000 ∧ ∀ x ∈ al, x.1.length ≤ 1000000000 ∧ x.2.length ≤ 100000000 ∧ ∀ s ∈ x.2, s.length ≤ 1000000000
theorem oB (x : List UInt8 × List (List UInt8)) (h : x.1.length ≤ 1000000000 ∧ x.2.length ≤ 100000000 ∧ ∀ s ∈ x.2, s.length ≤ 1000000000) : SmE (bI x) := by
 simp only [bI, SmE, SmL, cP];exact ⟨by simp, by simp, ⟨h.1, by simp, trivial⟩, ⟨by simp, by simp; omega, gB x.2 h.2.2⟩, trivial⟩
theorem mT (al : List (List UInt8 × List (List UInt8))) (h : ∀ x ∈ al, x.1.length ≤ 1000000000 ∧ x.2.length ≤ 100000000 ∧ ∀ s ∈ x.2, s.length ≤ 1000000000) : SmL (al.map bI) := by
 induction al with
 | nil => simp only [List.map_nil, SmL]
 | cons x r ih =>
  simp only [List.map_cons, SmL];exact ⟨oB x (h x (by simp)), ih fun y hy => h y (by simp [hy])⟩
theorem pE (vs : Value) (al : List (List UInt8 × List (List UInt8))) (w : World) (h : eG w vs al) (hok : pD al) :
  Calls Tryz.prog 122 #[vs] w fun e w' => (∃ u, e = .returned (.agg (elA (.mk 0 16 true [] (al.map bI)) u)) ∧ bf (fun g => w.heap.size ≤ g) w' u (al.map bI)) ∧ Below w.heap.size w w' := by
 obtain ⟨hl, hb⟩ := hok;have HB := hid hb;have b1 := alb w Ze 45;have t1 := alz w Ze 45;have h1 := h.below b1;clear h hb;obtain ⟨a, cap, hvs, hcap, hcells⟩ := h1;subst hvs;have HC := hid hcells;clear hcells
 go_enter Tryz.func122, Tryz.ntmps122
 go_wp2_with fail
 generalize w.alloc (.cells Ze 45) = w1 at b1 t1 HC ⊢
 go_loopw [3, 5, 8] (fun v _ i wr => vJ w1 al v i wr) (fun _ _ i _ => al.length - (RowKit.intOf i).toNat)
 case atStart => exact ⟨0, rfl, Nat.zero_le _, bJ.nil _ _, aq _ _⟩
 case round =>
  obtain ⟨k, rfl, hk, hown, hbe⟩ := hrel;obtain ⟨av, cv, hsh⟩ := hown.shape;subst hsh;have hlen : ((al.take k).map bI).length = k := by simp; omega
  rw [hlen] at hown ⊢
  by_cases hkl : k < al.length
  ·obtain ⟨x, hx⟩ : ∃ x, al[k]? = some x := ⟨_, by simp [hkl]; rfl⟩
   obtain ⟨g, o, ha, hc⟩ := HC.out (by intro h0; rw [h0] at hkl; simp at hkl);subst ha;obtain ⟨p0, u, p1, hu⟩ := hc k x hx;have q0 := (hbe.cell (bj p0)).trans p0;have q1 := (hbe.cell (bj p1)).trans p1;have hu' := hu.below hbe;obtain ⟨au, cu, hus, hcu, hru⟩ := id hu';subst hus;clear hru;have i1 : decide ((k : Int) < (al.length : Int)) = true := aA (by omega);have i2 : (k : Int) < (al.length : Int) := by omega
   have hbx := HB.out x (List.mem_of_getElem? hx);have HO := hid hown;have HX := hid hx;have HU := hid hu';have HBX := hid hbx;have hszr := hbe.size;have n1 := alb wr #[.string ⟨x.1.toArray⟩, .slice au x.2.length cu] 56;have n2 := alz wr #[.string ⟨x.1.toArray⟩, .slice au x.2.length cu] 56;have kc := mS x.1 _ x.2 _ (hu'.below n1) hbx.2.1 hbx.1 hbx.2.2;clear hc hx hown hu hu' hbx p0 p1 n2
   go_wp2_with fail
   refine ag kc ?_;rintro e w2 ⟨⟨u2, rfl, hu2⟩, hb2⟩;have hb3 : Below wr.heap.size wr w2 := n1.trans (hb2.mono n1.size);have o2 := HO.out.below hb3;have b2 := hbe.trans (hb3.mono hszr);have hke2 : bf (fun g => (.slice av k cv : Value).ownBlock ≠ some g) w2 u2 (bI x).kids := hu2.mono fun g hg _ h => by
    have := (HO.out.lt h).2;have := n1.size
    omega
   obtain ⟨a2, c2, hs2⟩ := hu2.shape;subst hs2;clear kc hb2 q0 q1 hu2 n1 hb3;simp only [elA, bI, cP, El.cls, El.tag, El.cons, El.bytes, El.kids, aG, aU] at hke2 ⊢;have g3 := alb w2 #[I0, .int .i64 16, .bool true, Es, .slice a2 2 c2] 45;have x3 : (w2.alloc (.cells #[I0, .int .i64 16, .bool true, Es, .slice a2 2 c2] 45)).heap[w2.heap.size]? = some (.cells (elA (bI x) (.slice a2 2 c2)) 45 (0, 0)) := bi _ _ _ rfl;have o3 := o2.below g3;have b3 := b2.trans (g3.mono b2.size);have k3 := hke2.below g3;have hs3 := b3.size;have O3 := hid o3;have X3 := hid x3;have B3 := hid b3;have K3 := hid k3;clear o2 b2 g3 o3 x3 b3 hke2 k3 hbe
   go_wp2_with (at_builtin; refine bO rfl (.tmp 12) (.tmp 18) rfl w1.heap.size (.slice av k cv) ((al.take k).map bI) rfl O3.out (bI x) a2 2 c2 w2.heap.size rfl X3.out K3.out (by omega) hs3 ?_; rw [hlen]; intro a' c' w5 ho5 hg5)
   have hts : (al.take (k + 1)).map bI = (al.take k).map bI ++ [bI x] := by rw [List.take_add_one, HX.out]; simp
   have b5 := B3.out.grown hg5 hs3 (fun b hb => (O3.out.lt hb).1);exact ⟨⟨k + 1, by go_num, by omega, by rw [hts]; exact ho5, b5⟩, by simp [RowKit.intOf]; omega⟩
  ·obtain rfl : k = al.length := by omega
   rw [List.take_of_length_le (ah _)] at hown;have ks := cH (al.map bI) _ wr hown.kids (mT al HB.out) (by simp; omega);have t2 := (hbe.block _ (gl t1)).trans t1;have b2 := b1.trans (hbe.mono b1.size);have KS := hid ks;have T2 := hid t2;clear ks hown t2 t1 hbe b1
   go_wp2_with fail
   refine ag (show Calls _ _ _ _ _ from KS.out) ?_;rintro e w7 ⟨⟨u, rfl, hu⟩, hb⟩;have t7 := (hb.block _ (gl T2.out)).trans T2.out;have b7 := b2.trans (hb.mono b2.size);have hs6 := (gl T2.out);clear KS hb T2 b2;obtain ⟨E, hE⟩ : ∃ E, elA (El.mk 0 16 true [] (al.map bI)) u = E := ⟨_, rfl⟩;have hE1 : E.all (·.oneCell') = true := by
    obtain ⟨a, c, hsl⟩ := hu.shape;subst hsl;rw [← hE]; simp [elA, Value.oneCell']
   have hE2 : E.size = 5 := by rw [← hE]; rfl
   rw [hE];have hsz := (gl t7);have bF := bm b7 (g := w.heap.size) (ah _) E;have tF := setRow_heap w7 w.heap.size _ E _ _ t7;have uF : bf (fun g => w.heap.size ≤ g) (w7.setRow w.heap.size E) u (El.mk 0 16 true [] (al.map bI)).kids := hu.kept fun g hg hl => ⟨setRow_other w7 w.heap.size g E (by omega), by omega⟩
   have HE := hid hE;have HE1 := hid hE1;have HE2 := hid hE2;have UF := hid uF;clear hu hE hE1 hE2 uF b7
   go_wp2_with (refine bh rfl 45 (.tmp 2) (.tmp 22) rfl w.heap.size 45 _ E (by rfl) (by rfl) t7 (by rw [HE2.out]; rfl) (by rw [HE2.out]; rfl) HE1.out ?_)
   refine aH (v := .agg E) ?_ rfl ⟨⟨u, by rw [← HE.out] <;> rfl, UF.out⟩, bF⟩;have hr := aJ (P := Tryz.prog) (w7.setRow w.heap.size E) w.heap.size 45 45 E (0, 0) _ tF (show Tryz.prog.underlying 45 = _ from Tryz.underlying45) (by rfl) (by rw [HE2.out]; rfl)
   simp [results, Tryz.f122]
   exact hr
end Go.Proofs.YthjaiigijbjloaaGreatDoor
