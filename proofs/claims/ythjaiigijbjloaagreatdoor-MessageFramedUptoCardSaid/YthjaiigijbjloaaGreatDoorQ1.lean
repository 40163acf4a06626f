/- Base, CardBaseC, PlainBer, BerA, MapK, Gen. -/
import Derived.Test.YthjaiigijbjloaaGreatDoorShelf
import Derived.WalkKit
import Derived.WalkLawsBesides
import Derived.WalkSpells
import Derived.Deep.QuietTactic
import Derived.BigQuiet
import Derived.Lib.AppendStr
import Derived.Lib.OthersKept
import Derived.Lib.Hide
import Derived.Lib.TrimUEq
import Derived.Lib.ValidLaws
import Derived.Laws.Runes
import Derived.Test.YthjaiigijbjloaaGreatDoorCards
import Derived.Test.YthjaiigijbjloaaGreatDoorTie
import Derived.ProofKit
import Derived.OpenShut
import Derived.Deep.DeepHandedRow
import Derived.Deep.DeepWitnessRowRef
import Derived.Lib.LaidTab
import Derived.Lib.LaidIn
import Derived.Lib.LaidU8T
import Derived.SizedLaws
import Derived.MapKept
import Derived.Laws.Rows
import Derived.Laws.Tables
import Derived.Deep.AppendLies
import Derived.RegionTactic
import Derived.OrdersHeld
namespace Go.Proofs.YthjaiigijbjloaaGreatDoor
open Go.RowKit Go.Lib
open Go.Shelf Go.ChangeShapes Go.WideShapes Go.ChangeAt Go.RowKit Go.Lib
open Go.RowKit
theorem gl {α : Type _} {a : Array α} {i : Nat} {x : α} (h : a[i]? = some x) : i < a.size := (Array.getElem?_eq_some_iff.1 h).1
abbrev Zm : Array Value := #[.int .i64 0, .int .i64 0, .string ⟨#[]⟩, .int .i64 0, .bool false, .string ⟨#[]⟩, .int .i64 0, .int .i64 0, .int .i64 0, .int .i64 0, .bool false, .slice none 0 0, .slice none 0 0, .slice none 0 0, .slice none 0 0, .string ⟨#[]⟩, .string ⟨#[]⟩, .bool false, .bool false, .string ⟨#[]⟩, .string ⟨#[]⟩, .string ⟨#[]⟩, .bool false, .int .i64 0, .int .i64 0, .string ⟨#[]⟩, .string ⟨#[]⟩, .slice none 0 0]
abbrev Ze : Array Value := #[.int .i64 0, .int .i64 0, .bool false, .string ⟨#[]⟩, .slice none 0 0]
abbrev Zf : Array Value := #[.int .i64 0, .int .i64 0, .string ⟨#[]⟩, .string ⟨#[]⟩, .string ⟨#[]⟩, .string ⟨#[]⟩, .slice none 0 0]
theorem lt_of_cell {w : World} {a : Addr} {v : Value} (h : w.cell? a = some v) : a.block < w.heap.size := by
 rcases Nat.lt_or_ge a.block w.heap.size with h' | h'
 ·exact h'
 ·simp [World.cell?, Array.getElem?_eq_none h'] at h
structure Env (w : World) : Prop where
 tabs : Lib.Utf8Tabs 1 2 w
 maxl : ∃ m, w.cell? ⟨0, 0, none⟩ = some (.int .i64 m)
theorem Env.below {w w' : World} (h : Env w) (hb : Below w.heap.size w w') : Env w' :=
 ⟨Utf8Tabs_below h.tabs hb, by obtain ⟨m, hm⟩ := h.maxl; exact ⟨m, (hb.cell (lt_of_cell hm)).trans hm⟩⟩
theorem below_ext {a b c : World} (h : Below a.heap.size a b) (k : Below b.heap.size b c) : Below a.heap.size a c := h.trans (k.mono h.size)
def bV (l : List UInt8) : List Value := l.map fun b => Value.int .u8 b.toNat
theorem bV_length (l : List UInt8) : (bV l).length = l.length := by simp [bV]
theorem bV_append (a b : List UInt8) : bV (a ++ b) = bV a ++ bV b := by simp [bV]
theorem strCells_bV (s : ByteArray) : strCells s = bV s.data.toList := rfl
theorem push_bytes : ∀ (l : List UInt8) (s : ByteArray), (l.map fun b => (b.toNat : Int)).foldl (fun r n => r.push (UInt8.ofNat n.toNat)) s = ⟨(s.data.toList ++ l).toArray⟩
 | [], s => by cases s; simp
 | b :: l, s => by
  simp only [List.map_cons, List.foldl_cons]
  rw [push_bytes l]
  simp [ByteArray.push]
theorem run_str_cells {P : Program} (w : World) (src dst e : TypeId) (a : Addr) (c : Nat) (l : List UInt8)
  (hs : P.underlying src = some (.slice e)) (he : P.underlying e = some (.int .u8)) (hd : P.underlying dst = some .string)
  (h : ∀ j u, (bV l)[j]? = some u → w.cell? (a.add j) = some u) :
  (convert src dst (.slice (some a) l.length c)).run P w = .ok (.string ⟨l.toArray⟩) w := by
 rw [run_convert_bytes_string w src dst e _ _ _ hs he hd]
 have hl := run_loadCells_list (P := P) w a (bV l) h
 rw [bV_length] at hl
 have : bV l = (l.map fun b => (b.toNat : Int)).map (Value.int .u8) := by simp [bV]
 rw [this] at hl
 rw [run_bytesToString w a l.length c _ hl, push_bytes]
 simp
theorem run_str_nil {P : Program} (w : World) (src dst e : TypeId) (a : Option Addr) (c : Nat)
  (hs : P.underlying src = some (.slice e)) (he : P.underlying e = some (.int .u8)) (hd : P.underlying dst = some .string) :
  (convert src dst (.slice a 0 c)).run P w = .ok (.string ⟨#[]⟩) w := by
 rw [run_convert_bytes_string w src dst e _ _ _ hs he hd]
 cases a <;> (simp [Conv.bytesToString, loadCells, loadCellsFrom, ByteArray.empty, ByteArray.emptyWithCapacity]; rfl)
theorem run_str_own {P : Program} (w : World) (src dst e : TypeId) (base : Nat) (v : Value) (l : List UInt8)
  (hs : P.underlying src = some (.slice e)) (he : P.underlying e = some (.int .u8)) (hd : P.underlying dst = some .string)
  (h : w.ownsRow base e 1 v l.length (bV l)) :
  (convert src dst v).run P w = .ok (.string ⟨l.toArray⟩) w := by
 rcases h.2 with ⟨rfl, hn⟩ | ⟨g, cap, cur, rfl, _⟩
 ·obtain rfl : l = [] := List.eq_nil_of_length_eq_zero hn
  exact run_str_nil w src dst e none 0 hs he hd
 ·exact run_str_cells w src dst e _ cap l hs he hd (h.cells (g := g) rfl)
theorem own : ownKnob Tryz.prog.godebug = none := by kernel_rfl
theorem accept_eq : (Rows.laid_unicode_utf8_acceptRanges : DataW Unit) = Lib.acceptData := by kernel_rfl
theorem first_eq : Rows.laid_unicode_utf8_first = Lib.firstData := by kernel_rfl
noncomputable def laidWorld (os : Os) : World :=
 let w0 := World.holding Tryz.prog os ⟨#[], #[], []⟩
 let put (h : Array Obj) (g : Nat) (cs : Array Value) : Array Obj := h.modify g fun
  | .cells _ t frozen => .cells cs t frozen
  | o => o
 let h1 := put w0.heap 1 (Lib.firstTab.map fun z => Value.int .u8 z).toArray
 let h2 := put h1 2 ((List.range 16).flatMap fun i => [Value.int .u8 (Lib.accLo i), Value.int .u8 (Lib.accHi i)]).toArray
 { w0 with heap := h2 }
theorem laid_met (os : Os) (args : Array Value) : laidMet Tryz.prog [("unicode/utf8.acceptRanges", Rows.laid_unicode_utf8_acceptRanges), ("unicode/utf8.first", Rows.laid_unicode_utf8_first)] ((laidWorld os).forCall (fun _ _ => 0) ⟨#[], args, []⟩).memory :=
 (LaidIn.of_run (l := [("unicode/utf8.acceptRanges", Rows.laid_unicode_utf8_acceptRanges), ("unicode/utf8.first", Rows.laid_unicode_utf8_first)]) [2, 1] 8 (by kernel_rfl) (by kernel_rfl) (by kernel_rfl) (by kernel_rfl)).met
theorem env_of {W : World} (hL : laidMetH Tryz.prog [("unicode/utf8.acceptRanges", Rows.laid_unicode_utf8_acceptRanges), ("unicode/utf8.first", Rows.laid_unicode_utf8_first)] W) (hsh : W.ShapedOpen Tryz.prog) : Env W := by
 refine ⟨?_, ?_⟩
 ·rw [accept_eq, first_eq] at hL
  exact utf8Tabs_of_readsT (U8Types.of260 Tryz.lays260) ⟨by kernel_rfl, by kernel_rfl, by kernel_rfl, by kernel_rfl, by kernel_rfl, by kernel_rfl, by kernel_rfl⟩ (Lib.laidMet.reads hL (.tail _ (.head _))) (Lib.laidMet.reads hL (.head _))
 ·exact Tryz.laysM143.s1_3 W hsh
theorem laidOut : laidOutB Tryz.prog = true := by kernel_rfl
theorem rowed : mapsRowed Tryz.prog = true := by kernel_rfl
theorem sizedAll : (List.range Tryz.prog.types.size).all (fun t => match Tryz.prog.underlying t with | some (.slice e) => decide (0 < Tryz.prog.cellsOf e) | _ => true) = true := by kernel_rfl
theorem kidsAll : Kids Tryz.prog (· < Tryz.prog.types.size) := kids_rows laidOut rowed
theorem args_stay {H : Type} {enc : TypeId × Value → H} {W W' : World} (hb : Below W.heap.size W W') : ∀ (ts : List TypeId) (vs : List Value) (ds : List (DataW H)) (ps : List MemPlace), (∀ t ∈ ts, t < Tryz.prog.types.size) →
  DataW.TrodAll enc Tryz.prog W 0 (fun _ => true) true ts vs ds ps → (∀ p ∈ ps, p.block < W.heap.size) → DataW.TrodAll enc Tryz.prog W' 0 (fun b => decide (b < W.heap.size)) true ts vs ds ps
 | [], [], [], ps, _, h, _ => h
 | t :: ts, v :: vs, d :: ds, ps, ht, h, hp => by
  obtain ⟨p, q, ⟨n, hn⟩, hq, rfl⟩ := h
  refine ⟨p, q, ⟨n, ?_⟩, args_stay hb ts vs ds q (fun t h => ht t (by simp [h])) hq (fun x hx => hp x (by simp [hx])), rfl⟩
  refine DataW.trod_stays kidsAll (fun {t e} ht hu => ?_) (fun h => by cases h) (ht t (by simp)) hn (fun x hx => hb.same (hp x (by simp [hx]))) (fun x hx => decide_eq_true (hp x (by simp [hx])))
  have := List.all_eq_true.1 sizedAll t (List.mem_range.2 ht)
  rw [hu] at this
  exact of_decide_eq_true this
 | [], [], _ :: _, _, _, h, _ => h.elim
 | [], _ :: _, [], _, _, h, _ => h.elim
 | [], _ :: _, _ :: _, _, _, h, _ => h.elim
 | _ :: _, [], [], _, _, h, _ => h.elim
 | _ :: _, [], _ :: _, _, _, h, _ => h.elim
 | _ :: _, _ :: _, [], _, _, h, _ => h.elim
theorem spot_of_cell {w : World} {a : Addr} {v : Value} (h : w.cell? a = some v) : a.spot = none := by
 unfold World.cell? at h
 split at h
 ·split at h
  ·cases h
  ·rename_i hs; simpa using hs
 ·cases h
inductive El where
 | mk (cls tag : Int) (cons : Bool) (bytes : List UInt8) (kids : List El)
def El.cls : El → Int
 | .mk c _ _ _ _ => c
def El.tag : El → Int
 | .mk _ t _ _ _ => t
def El.cons : El → Bool
 | .mk _ _ k _ _ => k
def El.bytes : El → List UInt8
 | .mk _ _ _ b _ => b
def El.kids : El → List El
 | .mk _ _ _ _ ks => ks
mutual
def depE : El → Nat
 | .mk _ _ _ _ ks => depL ks + 1
def depL : List El → Nat
 | [] => 0
 | e :: r => max (depE e) (depL r)
end
mutual
def SmE : El → Prop
 | .mk _ _ _ b ks => b.length ≤ 1000000000 ∧ ks.length ≤ 1000000000 ∧ SmL ks
def SmL : List El → Prop
 | [] => True
 | e :: r => SmE e ∧ SmL r
end
mutual
def eachE (p : El → Bool) : Nat → El → Bool
 | d, .mk c t k b ks => if 20 ≤ d then true else p (.mk c t k b ks) && eachL p (d + 1) ks
def eachL (p : El → Bool) : Nat → List El → Bool
 | _, [] => true
 | d, e :: r => eachE p d e && eachL p d r
end
mutual
def deepE : Nat → El → Bool
 | d, .mk _ _ _ _ ks => if 20 ≤ d then true else deepL (d + 1) ks
def deepL : Nat → List El → Bool
 | _, [] => false
 | d, e :: r => deepE d e || deepL d r
end
def hasTagE : El → Bool
 | .mk c t _ _ _ => decide (0 ≤ c) && decide (c ≤ 3) && decide (0 ≤ t) && decide (t ≤ 30)
def hasFormE : El → Bool
 | .mk _ _ k b ks => if k then decide (b = []) else decide (ks = [])
def lenB (n : Nat) : List UInt8 :=
 if n < 128 then [UInt8.ofNat n] else if n < 256 then [129, UInt8.ofNat n] else if n < 65536 then [130, UInt8.ofNat (n / 256), UInt8.ofNat n] else [131, UInt8.ofNat (n / 65536), UInt8.ofNat (n / 256), UInt8.ofNat n]
mutual
def sizeE : El → Nat
 | .mk _ _ _ b ks => min (1 + (lenB (min (sizeL b.length ks) 65537)).length + sizeL b.length ks) 65537
def sizeL : Nat → List El → Nat
 | n, [] => n
 | n, e :: r => sizeL (min (n + sizeE e) 65537) r
end
def sumE : List El → Nat
 | [] => 0
 | e :: r => sizeE e + sumE r
mutual
def putE : El → List UInt8
 | .mk c t k b ks => UInt8.ofNat (c.toNat * 64 + t.toNat + (if k then 32 else 0)) :: lenB (b.length + sumE ks) ++ b ++ putL ks
def putL : List El → List UInt8
 | [] => []
 | e :: r => putE e ++ putL r
end
def writeE (e : El) : List UInt8 × Int :=
 if eachE hasTagE 0 e = false then ([], 21) else if eachE hasFormE 0 e = false then ([], 24) else if deepE 0 e then ([], 23) else if 65536 < sizeE e then ([], 2) else (putE e, 0)
theorem SmL_get : ∀ (l : List El) (j : Nat) (e : El), SmL l → l[j]? = some e → SmE e
 | [], _, _, _, h => by simp at h
 | x :: r, 0, e, h, hj => by simp at hj; subst hj; exact h.1
 | x :: r, j + 1, e, h, hj => SmL_get r j e h.2 (by simpa using hj)
theorem depL_get : ∀ (l : List El) (j : Nat) (e : El), l[j]? = some e → depE e ≤ depL l
 | [], _, _, h => by simp at h
 | x :: r, 0, e, hj => by simp at hj; subst hj; simp only [depL]; omega
 | x :: r, j + 1, e, hj => by
  have := depL_get r j e (by simpa using hj)
  simp only [depL]; omega
mutual
def ElC (P : Nat → Prop) (w : World) : El → Nat → Nat → Prop
 | .mk c t k b ks, g, o => w.cell? ⟨g, o, none⟩ = some (.int .i64 c) ∧ w.cell? ⟨g, o + 1, none⟩ = some (.int .i64 t) ∧ w.cell? ⟨g, o + 2, none⟩ = some (.bool k) ∧ w.cell? ⟨g, o + 3, none⟩ = some (.string ⟨b.toArray⟩) ∧
   ∃ u, w.cell? ⟨g, o + 4, none⟩ = some u ∧ ∃ a cap, u = .slice a ks.length cap ∧ ks.length ≤ cap ∧ (ks ≠ [] → ∃ g' o', a = some ⟨g', o', none⟩ ∧ P g' ∧ ElsC P w ks g' o')
def ElsC (P : Nat → Prop) (w : World) : List El → Nat → Nat → Prop
 | [], _, _ => True
 | e :: r, g, o => ElC P w e g o ∧ ElsC P w r g (o + 5)
end
def KidsAt (P : Nat → Prop) (w : World) (v : Value) (ks : List El) : Prop :=
 ∃ a cap, v = .slice a ks.length cap ∧ ks.length ≤ cap ∧ (ks ≠ [] → ∃ g o, a = some ⟨g, o, none⟩ ∧ P g ∧ ElsC P w ks g o)
def elA (e : El) (u : Value) : Array Value := #[.int .i64 e.cls, .int .i64 e.tag, .bool e.cons, .string ⟨e.bytes.toArray⟩, u]
theorem cell_same {w w' : World} {g i : Nat} (h : w'.heap[g]? = w.heap[g]?) : w'.cell? ⟨g, i, none⟩ = w.cell? ⟨g, i, none⟩ := by
 simp only [World.cell?, h]
mutual
theorem ElC.kept {P Q : Nat → Prop} {w w' : World} (hP : ∀ g, P g → g < w.heap.size → w'.heap[g]? = w.heap[g]? ∧ Q g) : ∀ (e : El) (g o : Nat), w'.heap[g]? = w.heap[g]? → ElC P w e g o → ElC Q w' e g o
 | .mk c t k b ks, g, o, hg, h => by
  simp only [ElC] at h ⊢
  obtain ⟨h0, h1, h2, h3, u, h4, a, cap, hu, hc, hk⟩ := h
  refine ⟨(cell_same hg).trans h0, (cell_same hg).trans h1, (cell_same hg).trans h2, (cell_same hg).trans h3, u, (cell_same hg).trans h4, a, cap, hu, hc, fun hn => ?_⟩
  obtain ⟨g', o', ha, hp, hs⟩ := hk hn
  have hlt : g' < w.heap.size := by
   cases ks with
   | nil => exact absurd rfl hn
   | cons e r =>
    simp only [ElsC] at hs
    cases e
    have hs1 := hs.1
    simp only [ElC] at hs1
    exact lt_of_cell hs1.1
  obtain ⟨h5, h6⟩ := hP g' hp hlt
  exact ⟨g', o', ha, h6, ElsC.kept hP ks g' o' h5 hs⟩
theorem ElsC.kept {P Q : Nat → Prop} {w w' : World} (hP : ∀ g, P g → g < w.heap.size → w'.heap[g]? = w.heap[g]? ∧ Q g) : ∀ (l : List El) (g o : Nat), w'.heap[g]? = w.heap[g]? → ElsC P w l g o → ElsC Q w' l g o
 | [], _, _, _, _ => by simp only [ElsC]
 | e :: r, g, o, hg, h => by
  simp only [ElsC] at h ⊢
  exact ⟨ElC.kept hP e g o hg h.1, ElsC.kept hP r g (o + 5) hg h.2⟩
end
theorem ElsC.lt {P : Nat → Prop} {w : World} {ks : List El} {g o : Nat} (hn : ks ≠ []) (hs : ElsC P w ks g o) : g < w.heap.size := by
 cases ks with
 | nil => exact absurd rfl hn
 | cons e r =>
  simp only [ElsC] at hs
  cases e
  have hs1 := hs.1
  simp only [ElC] at hs1
  exact lt_of_cell hs1.1
theorem KidsAt.kept {P Q : Nat → Prop} {w w' : World} {v : Value} {ks : List El} (h : KidsAt P w v ks) (hP : ∀ g, P g → g < w.heap.size → w'.heap[g]? = w.heap[g]? ∧ Q g) : KidsAt Q w' v ks := by
 obtain ⟨a, cap, hv, hc, hk⟩ := h
 refine ⟨a, cap, hv, hc, fun hn => ?_⟩
 obtain ⟨g, o, ha, hp, hs⟩ := hk hn
 obtain ⟨h1, h2⟩ := hP g hp (hs.lt hn)
 exact ⟨g, o, ha, h2, ElsC.kept hP ks g o h1 hs⟩
theorem KidsAt.below {P : Nat → Prop} {w w' : World} {v : Value} {ks : List El} (h : KidsAt P w v ks) (hb : Below w.heap.size w w') : KidsAt P w' v ks :=
 h.kept fun g hp hl => ⟨hb.block g hl, hp⟩
theorem KidsAt.mono {P Q : Nat → Prop} {w : World} {v : Value} {ks : List El} (h : KidsAt P w v ks) (hPQ : ∀ g, P g → g < w.heap.size → Q g) : KidsAt Q w v ks :=
 h.kept fun g hp hl => ⟨rfl, hPQ g hp hl⟩
theorem KidsAt.nil (P : Nat → Prop) (w : World) : KidsAt P w (.slice none 0 0) [] := ⟨none, 0, rfl, Nat.le_refl _, fun h => absurd rfl h⟩
theorem KidsAt.shape {P : Nat → Prop} {w : World} {v : Value} {ks : List El} (h : KidsAt P w v ks) : ∃ a c, v = .slice a ks.length c := by
 obtain ⟨a, c, e, _⟩ := h
 exact ⟨a, c, e⟩
theorem ElsC.get {P : Nat → Prop} {w : World} : ∀ (l : List El) (g o j : Nat) (e : El), ElsC P w l g o → l[j]? = some e → ElC P w e g (o + j * 5)
 | [], _, _, _, _, _, h => by simp at h
 | x :: r, g, o, 0, e, h, hj => by
  simp at hj; subst hj
  simp only [ElsC] at h
  simpa using h.1
 | x :: r, g, o, j + 1, e, h, hj => by
  simp only [ElsC] at h
  have := ElsC.get r g (o + 5) j e h.2 (by simpa using hj)
  rw [show o + (j + 1) * 5 = o + 5 + j * 5 by omega]
  exact this
theorem ElC.cells {P : Nat → Prop} {w : World} {e : El} {g o : Nat} (h : ElC P w e g o) : w.cell? ⟨g, o, none⟩ = some (.int .i64 e.cls) ∧ w.cell? ⟨g, o + 1, none⟩ = some (.int .i64 e.tag) ∧ w.cell? ⟨g, o + 2, none⟩ = some (.bool e.cons) ∧ w.cell? ⟨g, o + 3, none⟩ = some (.string ⟨e.bytes.toArray⟩) ∧
  ∃ u, w.cell? ⟨g, o + 4, none⟩ = some u ∧ KidsAt P w u e.kids := by
 cases e
 simp only [ElC] at h
 obtain ⟨h0, h1, h2, h3, u, h4, a, cap, hu, hc, hk⟩ := h
 exact ⟨h0, h1, h2, h3, u, h4, a, cap, hu, hc, hk⟩
theorem ElC.mk {P : Nat → Prop} {w : World} {e : El} {g o : Nat} {u : Value} (h0 : w.cell? ⟨g, o, none⟩ = some (.int .i64 e.cls)) (h1 : w.cell? ⟨g, o + 1, none⟩ = some (.int .i64 e.tag)) (h2 : w.cell? ⟨g, o + 2, none⟩ = some (.bool e.cons)) (h3 : w.cell? ⟨g, o + 3, none⟩ = some (.string ⟨e.bytes.toArray⟩))
  (h4 : w.cell? ⟨g, o + 4, none⟩ = some u) (hk : KidsAt P w u e.kids) : ElC P w e g o := by
 cases e
 simp only [ElC]
 obtain ⟨a, cap, hu, hc, hk⟩ := hk
 exact ⟨h0, h1, h2, h3, u, h4, a, cap, hu, hc, hk⟩
theorem alloc_at (Y : World) (o : Obj) (n : Nat) (h : n = Y.heap.size) : (Y.alloc o).heap[n]? = some o := by subst h; show (Y.heap.push o)[Y.heap.size]? = some o; simp
theorem run_lay {P : Program} (w : World) (mty kt et : TypeId) (r clock : Nat) (es : Array MapEntry) (k : Int) (val : Value) (hm : P.underlying mty = some (.map kt et)) (hk : P.underlying kt = some (.int .i64)) (hb : w.heap[r]? = some (.map es clock))
  (hf : Instr.findNow (.int .i64) (.int .i64 k) es.toList 0 = some none) :
  (Instr.mapUpdate mty (.map (some r)) (.int .i64 k) val).run P w = .ok () { w with heap := w.heap.setIfInBounds r (.map (es.push { key := .int .i64 k, val := val, born := clock }) (clock + 1)) } := by
 have hc : (Instr.checkKey false 10000 kt (.int .i64 k)).run P w = .ok () w := MapKept.run_checkKey (k := .int .i64 k) hk (by simp [MapKept.IsKey]) false 9999
 simp [Instr.mapUpdate, run_underlying hm, MapKept.run_getObj_map hb, hc, MapKept.run_findKey hk hf, MapKept.run_setObj_map _ hb, Result.andThen]
theorem run_lay_ex {P : Program} (w : World) (mty kt et : TypeId) (r clock : Nat) (es : Array MapEntry) (k : Int) (val : Value) (hm : P.underlying mty = some (.map kt et)) (hk : P.underlying kt = some (.int .i64)) (hb : w.heap[r]? = some (.map es clock))
  (hf : Instr.findNow (.int .i64) (.int .i64 k) es.toList 0 = some none) :
  ∃ w', (Instr.mapUpdate mty (.map (some r)) (.int .i64 k) val).run P w = .ok () w' ∧ w'.heap[r]? = some (.map (es.push { key := .int .i64 k, val := val, born := clock }) (clock + 1)) ∧ w'.heap.size = w.heap.size ∧ (∀ j, j ≠ r → w'.heap[j]? = w.heap[j]?) ∧ w'.os = w.os ∧ w'.tape = w.tape ∧ w'.output = w.output := by
 refine ⟨_, run_lay w mty kt et r clock es k val hm hk hb hf, ?_, ?_, ?_, rfl, rfl, rfl⟩
 ·have := (gl hb)
  simp [this]
 ·simp
 ·intro j hj
  simp [Ne.symm hj]
theorem own_below {w w' : World} {base e size n : Nat} {v : Value} {xs : List Value} (h : w.ownsRow base e size v n xs) (hb : Below w.heap.size w w') : w'.ownsRow base e size v n xs := by
 refine ⟨h.1, ?_⟩
 rcases h.2 with hn | ⟨g, cap, cur, rfl, hbg, hg, rest⟩
 ·exact .inl hn
 ·exact .inr ⟨g, cap, cur, rfl, hbg, by rw [hb.block g (gl hg)]; exact hg, rest⟩
theorem grown_set (w : World) (b i : Nat) (v : Value) : w.grownBy (w.setCell ⟨b, i, none⟩ v) (some b) :=
 ⟨rfl, rfl, rfl, Nat.le_of_eq (by simp), fun k _ hne => Below.heap_setCell w ⟨b, i, none⟩ v k (fun e => hne (congrArg some e))⟩
theorem own_set {w : World} {base e size n g cap i : Nat} {xs : List Value} {x : Value} (h : w.ownsRow base e size (.slice (some ⟨g, 0, none⟩) n cap) n xs) (_hi : i < xs.length) :
  (w.setCell ⟨g, i, none⟩ x).ownsRow base e size (.slice (some ⟨g, 0, none⟩) n cap) n (xs.set i x) := by
 refine ⟨by rw [List.length_set]; exact h.1, ?_⟩
 rcases h.2 with ⟨h1, _⟩ | ⟨g', cap', cur, hv, hb, hg, hc, hm, hs, ht⟩
 ·cases h1
 ·cases hv
  refine .inr ⟨g, cap, cur.setIfInBounds i x, rfl, hb, ?_, hc, hm, by simpa using hs, ?_⟩
  ·simp [World.setCell, Array.getElem?_modify, hg]
  ·rw [Array.toList_setIfInBounds, List.take_set, ht]
theorem own_cell {w : World} {base e size n g cap : Nat} {xs : List Value} (h : w.ownsRow base e size (.slice (some ⟨g, 0, none⟩) n cap) n xs) {i : Nat} {x : Value} (hi : xs[i]? = some x) : w.cell? ⟨g, i, none⟩ = some x ∧ w.frozen? ⟨g, i, none⟩ = false := by
 have hadd : (⟨g, 0, none⟩ : Addr).add i = ⟨g, i, none⟩ := by unfold Addr.add; split <;> simp_all
 have k1 := h.cells (g := g) rfl _ _ hi
 rw [hadd] at k1
 refine ⟨k1, ?_⟩
 rcases h.2 with ⟨h1, _⟩ | ⟨g', cap', cur, hv, hb, hg, _⟩
 ·cases h1
 ·cases hv
  exact Lib.frozen_of_heap hg i
theorem setCell_at {w : World} {C i : Nat} {cs : Array Value} {t : TypeId} {u : Value} (h : w.heap[C]? = some (.cells cs t (0, 0))) : (w.setCell ⟨C, i, none⟩ u).heap[C]? = some (.cells (cs.setIfInBounds i u) t (0, 0)) := by
 simp [World.setCell, Array.getElem?_modify, h]
theorem own_shape {w : World} {base e size n : Nat} {v : Value} {xs : List Value} (h : w.ownsRow base e size v n xs) : ∃ a c, v = .slice a n c := by
 rcases h.2 with ⟨rfl, h0⟩ | ⟨g, cap, cur, rfl, _⟩
 ·exact ⟨none, 0, by rw [h0]⟩
 ·exact ⟨_, _, rfl⟩
theorem own_mono {w : World} {base base' e size n : Nat} {v : Value} {xs : List Value} (h : w.ownsRow base e size v n xs) (hb : base' ≤ base) : w.ownsRow base' e size v n xs := by
 refine ⟨h.1, ?_⟩
 rcases h.2 with h1 | ⟨g, cap, cur, h1, h2, h3⟩
 ·exact .inl h1
 ·exact .inr ⟨g, cap, cur, h1, Nat.le_trans hb h2, h3⟩
theorem bel_drwN {B : Nat} {a w : World} (h : Below B a w) (n : Nat) : Below B a (w.drewN n) := ⟨h.os, h.tape, h.output, h.size, h.block⟩
theorem wpList_loadRow {P : Program} {w : World} {ops : Array Oper} {rest : List Oper} {o : Oper} {a : Act} {Q : Exit → Act → World → Prop} (hgd : o.guard = none) (t : TypeId) (x : Operand) (ho : o.op = .load t x)
  (g : Nat) (ty : TypeId) (cs : Array Value) (fr : Nat × Nat) (hx : a.eval x = .pointer (some ⟨g, 0, none⟩)) (hg : w.heap[g]? = some (.cells cs ty fr)) (d : TypeDesc) (hu : P.underlying t = some d)
  (hd : (match d with | .struct _ | .array _ _ => true | _ => false) = true) (hi : (P.info? t).map (·.size) = some cs.size)
  (h : wpList P ops Q rest (a.put o.dst (.agg cs)) w) : wpList P ops Q (o :: rest) a w := by
 refine wpList_plain hgd fun K hK => ?_
 have hr := run_loadVar_row (P := P) w g ty t cs fr d hg hu hd hi
 unfold Oper.wp execOp
 simp only [ho, hx, Instr.loadAt, Instr.sureAddr, Sem.run_bind, Sem.run_pure, Result.andThen_ok, hr]
 exact hK _ _ h
theorem wpList_storeRow {P : Program} {w : World} {ops : Array Oper} {rest : List Oper} {o : Oper} {a : Act} {Q : Exit → Act → World → Prop} (hgd : o.guard = none) (t : TypeId) (x y : Operand) (ho : o.op = .store t x y)
  (g : Nat) (ty : TypeId) (old cs : Array Value) (hx : a.eval x = .pointer (some ⟨g, 0, none⟩)) (hy : a.eval y = .agg cs) (hg : w.heap[g]? = some (.cells old ty (0, 0))) (hi : (P.info? t).map (·.size) = some cs.size) (hs : old.size = cs.size) (h1 : cs.all (·.oneCell') = true)
  (h : wpList P ops Q rest (a.put o.dst (.tuple #[])) (w.setRow g cs)) : wpList P ops Q (o :: rest) a w := by
 refine wpList_plain hgd fun K hK => ?_
 have hr := run_storeVar_row (P := P) w g ty t old cs hg hi hs h1
 unfold Oper.wp execOp
 simp only [ho, hx, hy, Instr.storeAt, Instr.sureAddr, Sem.run_bind, Sem.run_pure, Result.andThen_ok, hr]
 exact hK _ _ h
theorem grown_row (w : World) (b : Nat) (cs : Array Value) : w.grownBy (w.setRow b cs) (some b) :=
 ⟨rfl, rfl, rfl, by simp [World.setRow], fun k _ hne => setRow_other w b k cs (fun e => hne (congrArg some e))⟩
theorem below_row {B g : Nat} {a w : World} (h : Below B a w) (hg : B ≤ g) (cs : Array Value) : Below B a (w.setRow g cs) :=
 h.trans ⟨rfl, rfl, rfl, by simp [World.setRow], fun k hk => setRow_other w g k cs (by omega)⟩
theorem exec_loadRow {P : Program} {w : World} {o : Oper} {a : Act} (t : TypeId) (x : Operand) (ho : o.op = .load t x)
  (g : Nat) (ty : TypeId) (cs : Array Value) (fr : Nat × Nat) (hx : a.eval x = .pointer (some ⟨g, 0, none⟩)) (hg : w.heap[g]? = some (.cells cs ty fr)) (d : TypeDesc) (hu : P.underlying t = some d)
  (hd : (match d with | .struct _ | .array _ _ => true | _ => false) = true) (hi : (P.info? t).map (·.size) = some cs.size) : (execOp a.eval o).run P w = .ok (.value (.agg cs)) w := by
 have hr := run_loadVar_row (P := P) w g ty t cs fr d hg hu hd hi
 unfold execOp
 simp only [ho, hx, Instr.loadAt, Instr.sureAddr, Sem.run_bind, Sem.run_pure, Result.andThen_ok, hr]
theorem wpList_loadRowG {P : Program} {w : World} {ops : Array Oper} {rest : List Oper} {o : Oper} {a : Act} {Q : Exit → Act → World → Prop} (hwd : Region.wanted o (yielded ops a.tmps) = true) (t : TypeId) (x : Operand) (ho : o.op = .load t x)
  (g : Nat) (ty : TypeId) (cs : Array Value) (fr : Nat × Nat) (hx : a.eval x = .pointer (some ⟨g, 0, none⟩)) (hg : w.heap[g]? = some (.cells cs ty fr)) (d : TypeDesc) (hu : P.underlying t = some d)
  (hd : (match d with | .struct _ | .array _ _ => true | _ => false) = true) (hi : (P.info? t).map (·.size) = some cs.size)
  (h : wpList P ops Q rest (a.put o.dst (.agg cs)) w) : wpList P ops Q (o :: rest) a w := by
 refine wpList_step fun K hK => ?_
 rw [if_pos hwd]
 have hr := run_loadVar_row (P := P) w g ty t cs fr d hg hu hd hi
 unfold Oper.wp execOp
 simp only [ho, hx, Instr.loadAt, Instr.sureAddr, Sem.run_bind, Sem.run_pure, Result.andThen_ok, hr]
 exact hK _ _ h
theorem anyH_take {P : Program} {md : Region.Mode} {ops : Array Oper} {Q : Exit → Act → World → Prop} {S : World → Prop} (i : Nat) (v : Value) {oi : Oper} {fuel : Nat} {listed : Array Bool} {a : Act} {w : World} (hi : ops[i]? = some oi)
  (hs : Region.noSelect ops = true) (hf : Region.free md ops listed i = true) (hr : (Region.ready md ops listed).contains i = true) (hQ : ∀ c a w, Q (.panic c) (a.put oi.dst v) w → Q (.panic c) a w)
  (hw : Region.wanted oi (yielded ops a.tmps) = true) (hy : ∀ w, S w → (execOp a.eval oi).run P w = .ok (.value v) w) (hS : S w)
  (h : ∀ K' : Act → World → Prop, (∀ a w, wpAnyH P md ops Q S fuel (listed.setIfInBounds i true) a w → K' a w) → K' (a.put oi.dst v) w) : wpAnyH P md ops Q S (fuel + 1) listed a w :=
 wpAnyH_take hi hs hf hr hQ (Or.inl ⟨hw, hy⟩) hS (h _ (fun _ _ k => k))
theorem tk {P : Program} {md : Region.Mode} {ops : Array Oper} {Q : Exit → Act → World → Prop} {S : World → Prop} (i : Nat) (v : Value) {oi : Oper} {fuel : Nat} {listed : Array Bool} {a : Act} {w : World} (hi : ops[i]? = some oi)
 (hy : ∀ w, S w → (execOp a.eval oi).run P w = .ok (.value v) w) (hS : S w)
 (h : ∀ K' : Act → World → Prop, (∀ a w, wpAnyH P md ops Q S fuel (listed.setIfInBounds i true) a w → K' a w) → K' (a.put oi.dst v) w)
 (hs : Region.noSelect ops = true := by kernel_rfl) (hf : Region.free md ops listed i = true := by kernel_rfl) (hr : (Region.ready md ops listed).contains i = true := by kernel_rfl) (hQ : ∀ c a w, Q (.panic c) (a.put oi.dst v) w → Q (.panic c) a w := by exact fun _ _ _ h => h)
 (hw : Region.wanted oi (yielded ops a.tmps) = true := by rfl) : wpAnyH P md ops Q S (fuel + 1) listed a w :=
 anyH_take i v hi hs hf hr hQ hw hy hS h
theorem anyH_one {P : Program} {md : Region.Mode} {ops : Array Oper} {Q : Exit → Act → World → Prop} {S : World → Prop} (i : Nat) {o : Oper} {fuel : Nat} {listed : Array Bool} {a : Act} {w : World}
  (hr : Region.ready md ops listed = [i]) (ho : ops[i]? = some o) (hw : Region.wanted o (yielded ops a.tmps) = true)
  (h : ∀ K' : Act → World → Prop, (∀ a w, S w → wpAnyH P md ops Q S fuel (listed.setIfInBounds i true) a w → K' a w) → Oper.wp P o a w K' Q) : wpAnyH P md ops Q S (fuel + 1) listed a w :=
 wpAnyH_all hr (by simp) (fun j hj => by
  simp only [List.mem_singleton] at hj
  subst hj
  unfold wpOp
  rw [ho]
  simp only [hw, if_true]
  exact .inl (h _ (fun _ _ s k => ⟨s, k⟩)))
end Go.Proofs.YthjaiigijbjloaaGreatDoor
