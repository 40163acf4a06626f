/- What every walk of this seat leans on: the library's tables as they lie in memory, the bytes of a row of the call's own, small ends of walks. -/
import Derived.Test.YtegigcneimjimaaGreatDoorShelf
import Derived.WalkKit
import Derived.WalkLawsBesides
import Derived.WalkSpells
import Derived.Deep.QuietTactic
import Derived.BigQuiet
import Derived.Lib.AppendStr
import Derived.Lib.OthersKept
import Derived.Lib.Hide
import Derived.Lib.TrimUEq
import Derived.Lib.ValidLaws
import Derived.Laws.Runes
namespace Go.Proofs.YtegigcneimjimaaGreatDoor
open Go.RowKit Go.Lib

theorem ret_bool {a b : Bool} (h : a = b) : Ending.returned (.bool a) = .returned (.bool b) := by rw [h]
theorem ret_int {k : IntKind} {a b : Int} (h : a = b) : Ending.returned (.int k a) = .returned (.int k b) := by rw [h]
theorem ret_str {a b : ByteArray} (h : a = b) : Ending.returned (.string a) = .returned (.string b) := by rw [h]

theorem lt_of_cell {w : World} {a : Addr} {v : Value} (h : w.cell? a = some v) : a.block < w.heap.size := by
  rcases Nat.lt_or_ge a.block w.heap.size with h' | h'
  · exact h'
  · simp [World.cell?, Array.getElem?_eq_none h'] at h

/-- The library's variables that the walks read. -/
structure Env (w : World) : Prop where
  tabs : Lib.Utf8Tabs 1 2 w
  maxl : ∃ m, w.cell? ⟨0, 0, none⟩ = some (.int .i64 m)

theorem Env.below {w w' : World} (h : Env w) (hb : Below w.heap.size w w') : Env w' :=
  ⟨Utf8Tabs_below h.tabs hb, by obtain ⟨m, hm⟩ := h.maxl; exact ⟨m, (hb.cell (lt_of_cell hm)).trans hm⟩⟩

theorem below_ext {a b c : World} (h : Below a.heap.size a b) (k : Below b.heap.size b c) : Below a.heap.size a c := h.trans (k.mono h.size)

def bV (l : List UInt8) : List Value := l.map fun b => Value.int .u8 b.toNat
theorem bV_length (l : List UInt8) : (bV l).length = l.length := by simp [bV]
theorem bV_append (a b : List UInt8) : bV (a ++ b) = bV a ++ bV b := by simp [bV]
theorem strCells_bV (s : ByteArray) : strCells s = bV s.data.toList := rfl
theorem bV_get (l : List UInt8) (k : Nat) (h : k < l.length) : (bV l)[k]? = some (.int .u8 (l[k]).toNat) := by simp [bV, h]

theorem push_bytes : ∀ (l : List UInt8) (s : ByteArray), (l.map fun b => (b.toNat : Int)).foldl (fun r n => r.push (UInt8.ofNat n.toNat)) s = ⟨(s.data.toList ++ l).toArray⟩
  | [], s => by cases s; simp
  | b :: l, s => by
    simp only [List.map_cons, List.foldl_cons]
    rw [push_bytes l]
    simp [ByteArray.push]

/-- string(b) at bytes that lie somewhere. -/
theorem run_str_cells {P : Program} (w : World) (src dst e : TypeId) (a : Addr) (c : Nat) (l : List UInt8)
    (hs : P.underlying src = some (.slice e)) (he : P.underlying e = some (.int .u8)) (hd : P.underlying dst = some .string)
    (h : ∀ j u, (bV l)[j]? = some u → w.cell? (a.add j) = some u) :
    (convert src dst (.slice (some a) l.length c)).run P w = .ok (.string ⟨l.toArray⟩) w := by
  rw [run_convert_bytes_string w src dst e _ _ _ hs he hd]
  have hl := run_loadCells_list (P := P) w a (bV l) h
  rw [bV_length] at hl
  have : bV l = (l.map fun b => (b.toNat : Int)).map (Value.int .u8) := by simp [bV]
  rw [this] at hl
  rw [run_bytesToString w a l.length c _ hl, push_bytes]
  simp
theorem run_str_nil {P : Program} (w : World) (src dst e : TypeId) (a : Option Addr) (c : Nat)
    (hs : P.underlying src = some (.slice e)) (he : P.underlying e = some (.int .u8)) (hd : P.underlying dst = some .string) :
    (convert src dst (.slice a 0 c)).run P w = .ok (.string ⟨#[]⟩) w := by
  rw [run_convert_bytes_string w src dst e _ _ _ hs he hd]
  cases a <;> (simp [Conv.bytesToString, loadCells, loadCellsFrom, ByteArray.empty, ByteArray.emptyWithCapacity]; rfl)
/-- string(b) at a row of the call's own. -/
theorem run_str_own {P : Program} (w : World) (src dst e : TypeId) (base : Nat) (v : Value) (l : List UInt8)
    (hs : P.underlying src = some (.slice e)) (he : P.underlying e = some (.int .u8)) (hd : P.underlying dst = some .string)
    (h : w.ownsRow base e 1 v l.length (bV l)) :
    (convert src dst v).run P w = .ok (.string ⟨l.toArray⟩) w := by
  rcases h.2 with ⟨rfl, hn⟩ | ⟨g, cap, cur, rfl, _⟩
  · obtain rfl : l = [] := List.eq_nil_of_length_eq_zero hn
    exact run_str_nil w src dst e none 0 hs he hd
  · exact run_str_cells w src dst e _ cap l hs he hd (h.cells (g := g) rfl)
end Go.Proofs.YtegigcneimjimaaGreatDoor
