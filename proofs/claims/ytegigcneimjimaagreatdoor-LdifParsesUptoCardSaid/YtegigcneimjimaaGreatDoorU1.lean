/- Base, CardBase, PlainDn, DnA0, DnTL, PlainNum, PlainBase, LdifB. -/
import Derived.Test.YtegigcneimjimaaGreatDoorShelf
import Derived.WalkKit
import Derived.WalkLawsBesides
import Derived.WalkSpells
import Derived.Deep.QuietTactic
import Derived.BigQuiet
import Derived.Lib.AppendStr
import Derived.Lib.OthersKept
import Derived.Lib.Hide
import Derived.Lib.TrimUEq
import Derived.Lib.ValidLaws
import Derived.Laws.Runes
import Derived.Test.YtegigcneimjimaaGreatDoorCards
import Derived.Test.YtegigcneimjimaaGreatDoorTie
import Derived.ProofKit
import Derived.OpenShut
import Derived.Deep.DeepHandedRow
import Derived.Deep.DeepWitnessRowRef
import Derived.Lib.LaidTab
import Derived.Lib.LaidIn
import Derived.Lib.LaidU8T
import Derived.SizedLaws
import Derived.Lib.IndexLaws
import Derived.Lib.Split
import Derived.Shelf.Strings.SlTrimAscii
import Derived.Lib.SplitLaws
import Derived.Lib.TrimByte
import Derived.Lib.QuoteBits
namespace Go.Proofs.YtegigcneimjimaaGreatDoor
open Go.RowKit Go.Lib
open Go.Shelf Go.ChangeShapes Go.WideShapes Go.ChangeAt Go.RowKit Go.Lib
open Go.Lib
set_option maxRecDepth 100000
set_option maxHeartbeats 16000000
theorem lt_of_cell {w : World} {a : Addr} {v : Value} (h : w.cell? a = some v) : a.block < w.heap.size := by
  rcases Nat.lt_or_ge a.block w.heap.size with h' | h'
  · exact h'
  · simp [World.cell?, Array.getElem?_eq_none h'] at h
structure Env (w : World) : Prop where
  tabs : Lib.Utf8Tabs 1 2 w
  maxl : ∃ m, w.cell? ⟨0, 0, none⟩ = some (.int .i64 m)
theorem Env.below {w w' : World} (h : Env w) (hb : Below w.heap.size w w') : Env w' :=
  ⟨Utf8Tabs_below h.tabs hb, by obtain ⟨m, hm⟩ := h.maxl; exact ⟨m, (hb.cell (lt_of_cell hm)).trans hm⟩⟩
theorem below_ext {a b c : World} (h : Below a.heap.size a b) (k : Below b.heap.size b c) : Below a.heap.size a c := h.trans (k.mono h.size)
def bV (l : List UInt8) : List Value := l.map fun b => Value.int .u8 b.toNat
theorem bV_length (l : List UInt8) : (bV l).length = l.length := by simp [bV]
theorem bV_append (a b : List UInt8) : bV (a ++ b) = bV a ++ bV b := by simp [bV]
theorem strCells_bV (s : ByteArray) : strCells s = bV s.data.toList := rfl
theorem push_bytes : ∀ (l : List UInt8) (s : ByteArray), (l.map fun b => (b.toNat : Int)).foldl (fun r n => r.push (UInt8.ofNat n.toNat)) s = ⟨(s.data.toList ++ l).toArray⟩
  | [], s => by cases s; simp
  | b :: l, s => by
    simp only [List.map_cons, List.foldl_cons]
    rw [push_bytes l]
    simp [ByteArray.push]
theorem run_str_cells {P : Program} (w : World) (src dst e : TypeId) (a : Addr) (c : Nat) (l : List UInt8)
    (hs : P.underlying src = some (.slice e)) (he : P.underlying e = some (.int .u8)) (hd : P.underlying dst = some .string)
    (h : ∀ j u, (bV l)[j]? = some u → w.cell? (a.add j) = some u) :
    (convert src dst (.slice (some a) l.length c)).run P w = .ok (.string ⟨l.toArray⟩) w := by
  rw [run_convert_bytes_string w src dst e _ _ _ hs he hd]
  have hl := run_loadCells_list (P := P) w a (bV l) h
  rw [bV_length] at hl
  have : bV l = (l.map fun b => (b.toNat : Int)).map (Value.int .u8) := by simp [bV]
  rw [this] at hl
  rw [run_bytesToString w a l.length c _ hl, push_bytes]
  simp
theorem run_str_nil {P : Program} (w : World) (src dst e : TypeId) (a : Option Addr) (c : Nat)
    (hs : P.underlying src = some (.slice e)) (he : P.underlying e = some (.int .u8)) (hd : P.underlying dst = some .string) :
    (convert src dst (.slice a 0 c)).run P w = .ok (.string ⟨#[]⟩) w := by
  rw [run_convert_bytes_string w src dst e _ _ _ hs he hd]
  cases a <;> (simp [Conv.bytesToString, loadCells, loadCellsFrom, ByteArray.empty, ByteArray.emptyWithCapacity]; rfl)
theorem run_str_own {P : Program} (w : World) (src dst e : TypeId) (base : Nat) (v : Value) (l : List UInt8)
    (hs : P.underlying src = some (.slice e)) (he : P.underlying e = some (.int .u8)) (hd : P.underlying dst = some .string)
    (h : w.ownsRow base e 1 v l.length (bV l)) :
    (convert src dst v).run P w = .ok (.string ⟨l.toArray⟩) w := by
  rcases h.2 with ⟨rfl, hn⟩ | ⟨g, cap, cur, rfl, _⟩
  · obtain rfl : l = [] := List.eq_nil_of_length_eq_zero hn
    exact run_str_nil w src dst e none 0 hs he hd
  · exact run_str_cells w src dst e _ cap l hs he hd (h.cells (g := g) rfl)
theorem ofB (s : ByteArray) : (⟨s.data.toList.toArray⟩ : ByteArray) = s := by cases s; simp
theorem own : ownKnob Tryz.prog.godebug = none := by kernel_rfl
theorem accept_eq : (Rows.laid_unicode_utf8_acceptRanges : DataW Unit) = Lib.acceptData := by kernel_rfl
theorem first_eq : Rows.laid_unicode_utf8_first = Lib.firstData := by kernel_rfl
noncomputable def laidWorld (os : Os) : World :=
  let w0 := World.holding Tryz.prog os ⟨#[], #[], []⟩
  let put (h : Array Obj) (g : Nat) (cs : Array Value) : Array Obj := h.modify g fun
    | .cells _ t frozen => .cells cs t frozen
    | o => o
  let h1 := put w0.heap 1 (Lib.firstTab.map fun z => Value.int .u8 z).toArray
  let h2 := put h1 2 ((List.range 16).flatMap fun i => [Value.int .u8 (Lib.accLo i), Value.int .u8 (Lib.accHi i)]).toArray
  { w0 with heap := h2 }
theorem laid_met (os : Os) (args : Array Value) : laidMet Tryz.prog [("unicode/utf8.acceptRanges", Rows.laid_unicode_utf8_acceptRanges), ("unicode/utf8.first", Rows.laid_unicode_utf8_first)] ((laidWorld os).forCall (fun _ _ => 0) ⟨#[], args, []⟩).memory :=
  (LaidIn.of_run (l := [("unicode/utf8.acceptRanges", Rows.laid_unicode_utf8_acceptRanges), ("unicode/utf8.first", Rows.laid_unicode_utf8_first)]) [2, 1] 8 (by kernel_rfl) (by kernel_rfl) (by kernel_rfl) (by kernel_rfl)).met
theorem env_of {W : World} (hL : laidMetH Tryz.prog [("unicode/utf8.acceptRanges", Rows.laid_unicode_utf8_acceptRanges), ("unicode/utf8.first", Rows.laid_unicode_utf8_first)] W) (hsh : W.ShapedOpen Tryz.prog) : Env W := by
  refine ⟨?_, ?_⟩
  · rw [accept_eq, first_eq] at hL
    exact utf8Tabs_of_readsT (U8Types.of196 Tryz.laysValid) ⟨by kernel_rfl, by kernel_rfl, by kernel_rfl, by kernel_rfl, by kernel_rfl, by kernel_rfl, by kernel_rfl⟩ (Lib.laidMet.reads hL (.tail _ (.head _))) (Lib.laidMet.reads hL (.head _))
  · exact Tryz.laysM143.s1_3 W hsh
theorem laidOut : laidOutB Tryz.prog = true := by kernel_rfl
theorem rowed : mapsRowed Tryz.prog = true := by kernel_rfl
theorem sizedAll : (List.range Tryz.prog.types.size).all (fun t => match Tryz.prog.underlying t with | some (.slice e) => decide (0 < Tryz.prog.cellsOf e) | _ => true) = true := by kernel_rfl
theorem kidsAll : Kids Tryz.prog (· < Tryz.prog.types.size) := kids_rows laidOut rowed
theorem args_stay {H : Type} {enc : TypeId × Value → H} {W W' : World} (hb : Below W.heap.size W W') : ∀ (ts : List TypeId) (vs : List Value) (ds : List (DataW H)) (ps : List MemPlace), (∀ t ∈ ts, t < Tryz.prog.types.size) →
    DataW.TrodAll enc Tryz.prog W 0 (fun _ => true) true ts vs ds ps → (∀ p ∈ ps, p.block < W.heap.size) → DataW.TrodAll enc Tryz.prog W' 0 (fun b => decide (b < W.heap.size)) true ts vs ds ps
  | [], [], [], ps, _, h, _ => h
  | t :: ts, v :: vs, d :: ds, ps, ht, h, hp => by
    obtain ⟨p, q, ⟨n, hn⟩, hq, rfl⟩ := h
    refine ⟨p, q, ⟨n, ?_⟩, args_stay hb ts vs ds q (fun t h => ht t (by simp [h])) hq (fun x hx => hp x (by simp [hx])), rfl⟩
    refine DataW.trod_stays kidsAll (fun {t e} ht hu => ?_) (fun h => by cases h) (ht t (by simp)) hn (fun x hx => hb.same (hp x (by simp [hx]))) (fun x hx => decide_eq_true (hp x (by simp [hx])))
    have := List.all_eq_true.1 sizedAll t (List.mem_range.2 ht)
    rw [hu] at this
    exact of_decide_eq_true this
  | [], [], _ :: _, _, _, h, _ => h.elim
  | [], _ :: _, [], _, _, h, _ => h.elim
  | [], _ :: _, _ :: _, _, _, h, _ => h.elim
  | _ :: _, [], [], _, _, h, _ => h.elim
  | _ :: _, [], _ :: _, _, _, h, _ => h.elim
  | _ :: _, _ :: _, [], _, _, h, _ => h.elim
def letB (c : UInt8) : Bool := (decide (97 ≤ c.toNat) && decide (c.toNat ≤ 122)) || (decide (65 ≤ c.toNat) && decide (c.toNat ≤ 90))
def digB (c : UInt8) : Bool := decide (48 ≤ c.toNat) && decide (c.toNat ≤ 57)
def inTyB (c : UInt8) : Bool := letB c || digB c || c == 45 || c == 46
def numB (n : List UInt8) : Bool := !n.isEmpty && !(decide (1 < n.length) && n.getD 0 0 == 48) && n.all digB
def oidB (s : List UInt8) : Bool := (split s [46]).all numB && decide (1 < (split s [46]).length)
def isTyB (s : List UInt8) : Bool :=
  if s = [] ∨ 64 < s.length then false
  else if letB (s.getD 0 0) then s.all (fun c => inTyB c && c != 46)
  else oidB s
theorem dec_le (a n : Nat) : decide ((a : Int) ≤ (n : Int)) = decide (a ≤ n) := decide_eq_decide.2 (by omega)
theorem beq_nat (n a : Nat) : (((n : Int) == (a : Int))) = (n == a) := by rw [Bool.eq_iff_iff]; simp; omega
theorem u8_beq (c : UInt8) (a : Nat) (h : a < 256) : (c == UInt8.ofNat a) = (c.toNat == a) := by
  rw [Bool.eq_iff_iff]
  simp only [beq_iff_eq]
  constructor
  · rintro rfl; rw [UInt8.toNat_ofNat']; omega
  · intro e; rw [← e]; simp
theorem isLetter_any (c : UInt8) (w : World) :
    Calls Tryz.prog 195 #[.int .u8 (c.toNat : Int)] w fun e w' => e = .returned (.bool (letB c)) ∧ w = w' := by
  unfold letB
  obtain ⟨n, hn⟩ : ∃ n, c.toNat = n := ⟨_, rfl⟩
  rw [hn]
  clear hn
  have h0 : decide ((97 : Int) ≤ (n : Int)) = decide (97 ≤ n) := dec_le 97 n
  have h1 : decide ((n : Int) ≤ (122 : Int)) = decide (n ≤ 122) := dec_le n 122
  have h2 : decide ((65 : Int) ≤ (n : Int)) = decide (65 ≤ n) := dec_le 65 n
  have h3 : decide ((n : Int) ≤ (90 : Int)) = decide (n ≤ 90) := dec_le n 90
  generalize decide (97 ≤ n) = p at h0 ⊢
  generalize decide (n ≤ 122) = q at h1 ⊢
  generalize decide (65 ≤ n) = r at h2 ⊢
  generalize decide (n ≤ 90) = t at h3 ⊢
  cases p <;> cases q <;> cases r <;> cases t <;> (go_enter Tryz.func195, Tryz.ntmps195; go_wp2; go_ret; exact ⟨rfl, rfl⟩)
theorem isDigit_any (c : UInt8) (w : World) :
    Calls Tryz.prog 248 #[.int .u8 (c.toNat : Int)] w fun e w' => e = .returned (.bool (digB c)) ∧ w = w' := by
  unfold digB
  obtain ⟨n, hn⟩ : ∃ n, c.toNat = n := ⟨_, rfl⟩
  rw [hn]
  clear hn
  have h0 : decide ((48 : Int) ≤ (n : Int)) = decide (48 ≤ n) := dec_le 48 n
  have h1 : decide ((n : Int) ≤ (57 : Int)) = decide (n ≤ 57) := dec_le n 57
  generalize decide (48 ≤ n) = p at h0 ⊢
  generalize decide (n ≤ 57) = q at h1 ⊢
  cases p <;> cases q <;> (go_enter Tryz.func248, Tryz.ntmps248; go_wp2; go_ret; exact ⟨rfl, rfl⟩)
theorem inType_any (c : UInt8) (w : World) :
    Calls Tryz.prog 197 #[.int .u8 (c.toNat : Int)] w fun e w' => e = .returned (.bool (inTyB c)) ∧ w = w' := by
  have k1 := isLetter_any c w
  have k2 := isDigit_any c w
  unfold inTyB
  have h0 : ((c.toNat : Int) == 45) = (c == 45) := (beq_nat c.toNat 45).trans (u8_beq c 45 (by decide)).symm
  have h1 : ((c.toNat : Int) == 46) = (c == 46) := (beq_nat c.toNat 46).trans (u8_beq c 46 (by decide)).symm
  generalize letB c = p at k1 ⊢
  generalize digB c = q at k2 ⊢
  generalize (c == 45) = r at h0 ⊢
  generalize (c == 46) = t at h1 ⊢
  cases p <;> cases q <;> cases r <;> cases t <;> (go_enter Tryz.func197, Tryz.ntmps197; go_wp2_with (first | (go_at_call 195; refine k1.mono ?_; rintro e w' ⟨rfl, rfl⟩) | (go_at_call 248; refine k2.mono ?_; rintro e w' ⟨rfl, rfl⟩)); go_ret; exact ⟨rfl, rfl⟩)
theorem dw_nil : ∀ x : List UInt8, x.dropWhile digB = [] ↔ x.all digB = true
  | [] => by simp
  | c :: t => by
    by_cases h : digB c = true
    · rw [List.dropWhile_cons_of_pos h, List.all_cons, h, Bool.true_and]
      exact dw_nil t
    · rw [List.dropWhile_cons_of_neg h]
      simp [h]
theorem mem_tw {p : UInt8 → Bool} {x : UInt8} : ∀ {l : List UInt8}, x ∈ l.takeWhile p → p x = true
  | [], h => by simp at h
  | c :: t, h => by
    by_cases hc : p c = true
    · rw [List.takeWhile_cons_of_pos hc] at h
      rcases List.mem_cons.1 h with rfl | h
      · exact hc
      · exact mem_tw h
    · rw [List.takeWhile_cons_of_neg hc] at h
      simp at h
theorem trim_digits (l : List UInt8) : (trimS l [48, 49, 50, 51, 52, 53, 54, 55, 56, 57] = []) ↔ l.all digB = true := by
  have hc : ∀ c : UInt8, ([48, 49, 50, 51, 52, 53, 54, 55, 56, 57] : List UInt8).contains c = digB c := by
    have : ∀ i : Fin 256, ([48, 49, 50, 51, 52, 53, 54, 55, 56, 57] : List UInt8).contains (UInt8.ofNat i.val) = digB (UInt8.ofNat i.val) := by decide +kernel
    intro c
    have h := this ⟨c.toNat, UInt8.toNat_lt c⟩
    simpa using h
  unfold trimS trimLeftS trimRightS
  simp only [hc]
  rw [dw_nil, List.all_eq_true, List.all_eq_true]
  constructor
  · intro h x hx
    by_cases hd : digB x = true
    · exact hd
    · have hmem : x ∈ l.reverse.dropWhile digB := by
        have := List.takeWhile_append_dropWhile (p := digB) (l := l.reverse)
        have hx2 : x ∈ l.reverse.takeWhile digB ++ l.reverse.dropWhile digB := by rw [this]; exact List.mem_reverse.2 hx
        rcases List.mem_append.1 hx2 with h1 | h1
        · exact absurd (mem_tw h1) hd
        · exact h1
      exact h x (List.mem_reverse.2 hmem)
  · intro h x hx
    exact h x (List.mem_reverse.1 ((List.dropWhile_sublist _).subset (List.mem_reverse.1 hx)))
theorem Split_l (s : List UInt8) (w : World) (hs : s.length ≤ 1000) (hE : Env w) :
    Calls Tryz.prog 246 #[.string ⟨s.toArray⟩, .string ⟨#[46]⟩] w fun e w' => e = .returned (.slice (some ⟨w.heap.size, 0, none⟩) (split s [46]).length (split s [46]).length) ∧ ((∀ j l, (split s [46])[j]? = some l → w'.cell? ⟨w.heap.size, j, none⟩ = some (.string ⟨l.toArray⟩)) ∧ w.heap.size < w'.heap.size ∧ Below w.heap.size w w') := by
  obtain ⟨m, hm⟩ := hE.maxl
  have hlen := Lib.splitB_all ⟨#[46]⟩ (by decide) 0 _ (⟨s.toArray⟩ : ByteArray) rfl
  have hd := splitB_data ⟨#[46]⟩ 0 (countB ⟨s.toArray⟩ ⟨#[46]⟩) ⟨s.toArray⟩
  have hsp : split s [46] = (splitB ⟨#[46]⟩ 0 (countB ⟨s.toArray⟩ ⟨#[46]⟩) ⟨s.toArray⟩).map (·.data.toList) := by rw [hd]; simp [split, countB]
  have hl2 : (split s [46]).length = countB ⟨s.toArray⟩ ⟨#[46]⟩ + 1 := by rw [hsp, List.length_map, hlen]
  refine (Tryz.strings_Split ⟨s.toArray⟩ ⟨#[46]⟩ m w (by rw [Lib.size_mk]; omega) hm (by decide)).mono ?_
  rintro e w' ⟨rfl, rfl⟩
  refine ⟨by rw [hl2], ?_, by simp, (Below.refl _ _).alloc (Nat.le_refl _) _⟩
  intro j l hj
  have hb : (w.alloc (.cells ((splitB ⟨#[46]⟩ 0 (countB ⟨s.toArray⟩ ⟨#[46]⟩) ⟨s.toArray⟩).map Value.string).toArray 9)).heap[w.heap.size]? = some (.cells ((splitB ⟨#[46]⟩ 0 (countB ⟨s.toArray⟩ ⟨#[46]⟩) ⟨s.toArray⟩).map Value.string).toArray 9 (0, 0)) := by
    show (w.heap.push _)[w.heap.size]? = _
    simp
  rw [Lib.cell_of_heap hb]
  rw [hsp, List.getElem?_map] at hj
  cases hq : (splitB ⟨#[46]⟩ 0 (countB ⟨s.toArray⟩ ⟨#[46]⟩) ⟨s.toArray⟩)[j]? with
  | none => rw [hq] at hj; cases hj
  | some x =>
    rw [hq] at hj
    cases hj
    simp only [List.getElem?_toArray, List.getElem?_map, hq, Option.map_some]
theorem Trim_l (s : List UInt8) (w : World) (hs : s.length ≤ 1099511627776) :
    Calls Tryz.prog 247 #[.string ⟨s.toArray⟩, .string ⟨#[48, 49, 50, 51, 52, 53, 54, 55, 56, 57]⟩] w fun e w' => e = .returned (.string ⟨(trimS s [48, 49, 50, 51, 52, 53, 54, 55, 56, 57]).toArray⟩) ∧ Below w.heap.size w w' :=
  Any.strings_Trim_ascii Tryz.lays160 (fun w => by kernel_rfl) (by kernel_rfl) ⟨s.toArray⟩ ⟨#[48, 49, 50, 51, 52, 53, 54, 55, 56, 57]⟩ w (by rw [Lib.size_mk]; omega) (by decide) (by
    intro j b hj
    have : b ∈ ([48, 49, 50, 51, 52, 53, 54, 55, 56, 57] : List UInt8) := List.mem_of_getElem? hj
    clear hj
    revert b
    decide)
def ORel (w : World) (ls : List (List UInt8)) (ANS : Bool) (i : Value) (wr : World) : Prop :=
  ∃ k : Nat, i = .int .i64 (k : Int) ∧ k ≤ ls.length ∧ (∀ j l, ls[j]? = some l → wr.cell? ⟨w.heap.size, j, none⟩ = some (.string ⟨l.toArray⟩)) ∧ w.heap.size < wr.heap.size ∧ Below w.heap.size w wr ∧ ((ls.drop k).all numB && decide (1 < ls.length)) = ANS
theorem splitK_length (sep : List UInt8) (save : Nat) : ∀ (k : Nat) (s : List UInt8), ∀ l ∈ splitK sep save k s, l.length ≤ s.length + save
  | 0, s, l, h => by simp [splitK] at h; subst h; omega
  | k + 1, s, l, h => by
    unfold splitK at h
    split at h
    · simp at h; subst h; omega
    · rcases List.mem_cons.1 h with rfl | h
      · rw [List.length_take]; omega
      · have := splitK_length sep save k _ l h
        rw [List.length_drop] at this
        omega
theorem isOid_any (s : List UInt8) (w : World) (hs : s.length ≤ 64) (hE : Env w) :
    Calls Tryz.prog 196 #[.string ⟨s.toArray⟩] w fun e w' => e = .returned (.bool (oidB s)) ∧ Below w.heap.size w w' := by
  have k1 := Split_l s w (by omega) hE
  have hlen : ∀ l ∈ split s [46], l.length ≤ 64 := fun l hl => Nat.le_trans (splitK_length _ 0 _ _ l hl) (by omega)
  have hcnt : (split s [46]).length ≤ 1000000 := by
    have h1 := splitB_data ⟨#[46]⟩ 0 (countB ⟨s.toArray⟩ ⟨#[46]⟩) ⟨s.toArray⟩
    have h2 : split s [46] = (splitB ⟨#[46]⟩ 0 (countB ⟨s.toArray⟩ ⟨#[46]⟩) ⟨s.toArray⟩).map (·.data.toList) := by rw [h1]; simp [split, countB]
    have h3 := splitB_length_le ⟨#[46]⟩ 0 (countB ⟨s.toArray⟩ ⟨#[46]⟩) (⟨s.toArray⟩ : ByteArray)
    have h4 := countB_le ⟨#[46]⟩ (by decide) _ (⟨s.toArray⟩ : ByteArray) (Nat.le_refl _)
    rw [Lib.size_mk] at h4
    rw [h2, List.length_map]
    omega
  unfold oidB
  obtain ⟨ANS, hA⟩ : ∃ ANS, ((split s [46]).all numB && decide (1 < (split s [46]).length)) = ANS := ⟨_, rfl⟩
  rw [hA]
  obtain ⟨ls, hls⟩ : ∃ ls, split s [46] = ls := ⟨_, rfl⟩
  rw [hls] at k1 hlen hA hcnt
  have HA := Lib.hid hA
  have HL := Lib.hid hlen
  clear hls hA hlen
  go_enter Tryz.func196, Tryz.ntmps196
  go_wp2_with (go_at_call 246; refine k1.mono ?_; rintro e w1 ⟨rfl, hc1, hs1, hb1⟩)
  go_loopw [10] (fun i wr => ORel w ls ANS i wr) (fun i _ => ls.length - (RowKit.intOf i).toNat)
  case atStart => exact ⟨0, rfl, by omega, hc1, hs1, hb1, HA.out⟩
  case round =>
    clear hc1 hs1 hb1 HA
    obtain ⟨k, rfl, hk, hc, hsz, hbe, hans⟩ := hrel
    have HC := Lib.hid hc
    by_cases hkl : k < ls.length
    · obtain ⟨x, hx⟩ : ∃ x, ls[k] = x := ⟨_, rfl⟩
      have hxk : ls[k]? = some x := by rw [List.getElem?_eq_getElem hkl, hx]
      have hcell := hc k x hxk
      have hxl : x.length ≤ 64 := HL.out x (List.mem_of_getElem? hxk)
      rw [List.drop_eq_getElem_cons hkl, hx, List.all_cons] at hans
      have k2 := Trim_l x wr (by omega)
      have htr := trim_digits x
      obtain ⟨T, hT⟩ : ∃ T, trimS x [48, 49, 50, 51, 52, 53, 54, 55, 56, 57] = T := ⟨_, rfl⟩
      rw [hT] at k2 htr
      clear hT hc hx hxk
      have hnx : numB x = (!x.isEmpty && !(decide (1 < x.length) && x.getD 0 0 == 48) && x.all digB) := rfl
      rw [hnx] at hans
      clear hnx
      by_cases h0 : x = []
      · subst h0
        rw [show (!([] : List UInt8).isEmpty && !(decide (1 < ([] : List UInt8).length) && ([] : List UInt8).getD 0 0 == 48) && ([] : List UInt8).all digB) = false from rfl, Bool.false_and, Bool.false_and] at hans
        subst hans
        clear htr k2
        go_wp2_with fail
        go_ret
        exact ⟨rfl, hbe⟩
      · have hne : x.isEmpty = false := by cases x <;> simp_all
        have hx1 : 0 < x.length := by cases x <;> simp_all
        rw [hne, Bool.not_false, Bool.true_and] at hans
        have hg0 : x.getD 0 0 = x[0] := by simp [hx1]
        rw [hg0] at hans
        have hq0 : (((((⟨x.toArray⟩ : ByteArray)[0]'(by rw [Lib.size_mk]; omega)).toNat : Int)) == 48) = (x[0] == 48) := by
          show (((x[0]).toNat : Int) == 48) = _
          exact (beq_nat _ 48).trans (u8_beq x[0] 48 (by decide)).symm
        obtain ⟨p, hp⟩ : ∃ p, decide (1 < x.length) = p := ⟨_, rfl⟩
        have hp1 : decide ((1 : Int) < (x.length : Int)) = p := by rw [← hp]; exact decide_eq_decide.2 (by omega)
        rw [hp] at hans
        generalize (x[0] == 48) = q at hq0 hans
        clear hp hg0
        have hT1 : (T == []) = x.all digB := by rw [Bool.eq_iff_iff, beq_iff_eq]; exact htr
        generalize x.all digB = d at hT1 hans
        clear htr
        have HS := Lib.hid hans
        clear hans
        have go1 : (p && q) = true → ANS = false := fun h => by rw [← HS.out, h]; rfl
        have go2 : d = false → ANS = false := fun h => by rw [← HS.out, h]; simp
        have go3 : (p && q) = false → d = true → ((ls.drop (k + 1)).all numB && decide (1 < ls.length)) = ANS := fun h h' => by rw [← HS.out, h, h']; simp
        have G1 := Lib.hid go1
        have G2 := Lib.hid go2
        have G3 := Lib.hid go3
        clear go1 go2 go3 HS
        cases p <;> cases q
        · cases d
          · have e := G2.out rfl
            subst e
            have hTe : T.isEmpty = false := by cases T <;> simp_all
            clear hT1 G1 G2 G3
            go_wp2_with (go_at_call 247; refine k2.mono ?_; rintro e w2 ⟨rfl, hb2⟩)
            go_ret
            exact ⟨rfl, below_ext hbe hb2⟩
          · have hTe : T = [] := by simpa using hT1
            subst hTe
            have g := G3.out rfl rfl
            have HG := Lib.hid g
            clear g hT1 G1 G2 G3
            go_wp2_with (go_at_call 247; refine k2.mono ?_; rintro e w2 ⟨rfl, hb2⟩)
            go_roundw
            case rel => exact ⟨k + 1, by go_num, by omega, fun j l h => (hb2.cell (by exact hsz)).trans (HC.out j l h), Nat.lt_of_lt_of_le hsz hb2.size, below_ext hbe hb2, HG.out⟩
            case measure => simp [RowKit.intOf]; omega
        · cases d
          · have e := G2.out rfl
            subst e
            have hTe : T.isEmpty = false := by cases T <;> simp_all
            clear hT1 G1 G2 G3
            go_wp2_with (go_at_call 247; refine k2.mono ?_; rintro e w2 ⟨rfl, hb2⟩)
            go_ret
            exact ⟨rfl, below_ext hbe hb2⟩
          · have hTe : T = [] := by simpa using hT1
            subst hTe
            have g := G3.out rfl rfl
            have HG := Lib.hid g
            clear g hT1 G1 G2 G3
            go_wp2_with (go_at_call 247; refine k2.mono ?_; rintro e w2 ⟨rfl, hb2⟩)
            go_roundw
            case rel => exact ⟨k + 1, by go_num, by omega, fun j l h => (hb2.cell (by exact hsz)).trans (HC.out j l h), Nat.lt_of_lt_of_le hsz hb2.size, below_ext hbe hb2, HG.out⟩
            case measure => simp [RowKit.intOf]; omega
        · cases d
          · have e := G2.out rfl
            subst e
            have hTe : T.isEmpty = false := by cases T <;> simp_all
            clear hT1 G1 G2 G3
            go_wp2_with (go_at_call 247; refine k2.mono ?_; rintro e w2 ⟨rfl, hb2⟩)
            go_ret
            exact ⟨rfl, below_ext hbe hb2⟩
          · have hTe : T = [] := by simpa using hT1
            subst hTe
            have g := G3.out rfl rfl
            have HG := Lib.hid g
            clear g hT1 G1 G2 G3
            go_wp2_with (go_at_call 247; refine k2.mono ?_; rintro e w2 ⟨rfl, hb2⟩)
            go_roundw
            case rel => exact ⟨k + 1, by go_num, by omega, fun j l h => (hb2.cell (by exact hsz)).trans (HC.out j l h), Nat.lt_of_lt_of_le hsz hb2.size, below_ext hbe hb2, HG.out⟩
            case measure => simp [RowKit.intOf]; omega
        · have e := G1.out rfl
          subst e
          clear G1 G2 G3 k2 hT1
          go_wp2_with fail
          go_ret
          exact ⟨rfl, hbe⟩
    · obtain rfl : k = ls.length := by omega
      rw [List.drop_of_length_le (Nat.le_refl _), List.all_nil, Bool.true_and] at hans
      have h1 : decide ((1 : Int) < (ls.length : Int)) = ANS := by rw [← hans]; exact decide_eq_decide.2 (by omega)
      clear hans hc
      go_wp2_with fail
      go_ret
      exact ⟨rfl, hbe⟩
theorem IsType_any (s : List UInt8) (w : World) (hs : s.length ≤ 1099511627776) (hE : Env w) :
    Calls Tryz.prog 114 #[.string ⟨s.toArray⟩] w fun e w' => e = .returned (.bool (isTyB s)) ∧ Below w.heap.size w w' := by
  unfold isTyB
  by_cases h0 : s = []
  · subst h0
    rw [if_pos (.inl rfl)]
    go_enter Tryz.func114, Tryz.ntmps114
    go_wp2
    go_ret
    exact ⟨rfl, Below.refl _ _⟩
  · have hne : s.isEmpty = false := by cases s <;> simp_all
    have hl : 0 < s.length := by cases s <;> simp_all
    by_cases h64 : 64 < s.length
    · rw [if_pos (.inr h64)]
      have q1 : decide ((64 : Int) < (s.length : Int)) = true := decide_eq_true (by omega)
      go_enter Tryz.func114, Tryz.ntmps114
      go_wp2
      go_ret
      exact ⟨rfl, Below.refl _ _⟩
    · rw [if_neg (by rintro (h | h); exact h0 h; exact h64 h)]
      have q1 : decide ((64 : Int) < (s.length : Int)) = false := decide_eq_false (by omega)
      have hg0 : s.getD 0 0 = s[0] := by simp [hl]
      have k1 := isLetter_any s[0] w
      rw [hg0]
      generalize letB s[0] = p at k1 ⊢
      cases p
      · rw [if_neg (by simp)]
        have k2 := isOid_any s w (by omega) hE
        go_enter Tryz.func114, Tryz.ntmps114
        go_wp2_with (first | (go_at_call 195; refine Calls.mono (show Calls _ _ _ _ _ from k1) ?_; rintro e w' ⟨rfl, rfl⟩) | (go_at_call 196; refine k2.mono ?_; rintro e w2 ⟨rfl, hb2⟩))
        go_ret
        exact ⟨rfl, hb2⟩
      · rw [if_pos rfl]
        obtain ⟨ANS, hA⟩ : ∃ ANS, s.all (fun c => inTyB c && c != 46) = ANS := ⟨_, rfl⟩
        rw [hA]
        have HA := Lib.hid hA
        clear hA
        go_enter Tryz.func114, Tryz.ntmps114
        go_wp2_with (go_at_call 195; refine Calls.mono (show Calls _ _ _ _ _ from k1) ?_; rintro e w' ⟨rfl, rfl⟩)
        go_loopw [21] (fun i wr => ∃ k : Nat, i = .int .i64 (k : Int) ∧ k ≤ s.length ∧ wr = w ∧ (s.drop k).all (fun c => inTyB c && c != 46) = ANS) (fun i _ => s.length - (RowKit.intOf i).toNat)
        case atStart => exact ⟨0, rfl, by omega, rfl, HA.out⟩
        case round =>
          obtain ⟨k, rfl, hk, rfl, hans⟩ := hrel
          clear HA
          by_cases hkl : k < s.length
          · rw [List.drop_eq_getElem_cons hkl, List.all_cons] at hans
            have k3 := inType_any s[k] wr
            have hq : (((((⟨s.toArray⟩ : ByteArray)[k]'(by rw [Lib.size_mk]; omega)).toNat : Int)) == 46) = (s[k] == 46) := by
              show (((s[k]).toNat : Int) == 46) = _
              exact (beq_nat _ 46).trans (u8_beq s[k] 46 (by decide)).symm
            rw [show (s[k] != 46) = !(s[k] == 46) from rfl] at hans
            generalize (s[k] == 46) = q at hq hans
            generalize inTyB s[k] = p at k3 hans
            have HS := Lib.hid hans
            clear hans
            cases p
            · have e : ANS = false := by rw [← HS.out]; rfl
              subst e
              go_wp2_with (go_at_call 197; refine Calls.mono (show Calls _ _ _ _ _ from k3) ?_; rintro e w' ⟨rfl, rfl⟩)
              go_ret
              exact ⟨rfl, Below.refl _ _⟩
            · cases q
              · go_wp2_with (go_at_call 197; refine Calls.mono (show Calls _ _ _ _ _ from k3) ?_; rintro e w' ⟨rfl, rfl⟩)
                go_roundw
                case rel => exact ⟨k + 1, by go_num, by omega, trivial, by rw [← HS.out]; simp⟩
                case measure => simp [RowKit.intOf]; omega
              · have e : ANS = false := by rw [← HS.out]; rfl
                subst e
                go_wp2_with (go_at_call 197; refine Calls.mono (show Calls _ _ _ _ _ from k3) ?_; rintro e w' ⟨rfl, rfl⟩)
                go_ret
                exact ⟨rfl, Below.refl _ _⟩
          · obtain rfl : k = s.length := by omega
            rw [List.drop_of_length_le (Nat.le_refl _), List.all_nil] at hans
            subst hans
            go_wp2_with fail
            go_ret
            exact ⟨rfl, Below.refl _ _⟩
theorem split_nil : split [] [46] = [[]] := by decide +kernel
theorem split_dot (t : List UInt8) : split (46 :: t) [46] = [] :: split t [46] := by
  unfold split
  rw [count_cons_eq, Nat.add_comm 1, splitK]
  have h : index (46 :: t) [46] = 0 := by unfold index; simp [List.isPrefixOf]
  rw [h, if_neg (by decide)]
  simp
theorem split_other (b : UInt8) (t : List UInt8) (hb : b ≠ 46) : ∃ f r, split t [46] = f :: r ∧ split (b :: t) [46] = (b :: f) :: r := by
  unfold split
  rw [count_cons_ne b 46 t hb]
  have hi : index (b :: t) [46] = if index t [46] == -1 then -1 else index t [46] + 1 := by
    rw [index]
    rw [if_neg (by simpa [List.isPrefixOf] using (fun h => hb h.symm))]
  have hg := index_ge t [46]
  cases hc : count t [46] with
  | zero => exact ⟨t, [], rfl, rfl⟩
  | succ k =>
    rw [splitK, splitK, hi]
    by_cases h : index t [46] = -1
    · rw [h]
      exact ⟨t, [], rfl, rfl⟩
    · have h2 : (index t [46] == -1) = false := by simpa using h
      obtain ⟨i, hii⟩ : ∃ i : Nat, index t [46] = i := ⟨(index t [46]).toNat, by omega⟩
      rw [h2, hii]
      have h3 : (((i : Int) + 1) == -1) = false := by rw [beq_eq_false_iff_ne]; omega
      simp only [Bool.false_eq_true, if_false, h3]
      refine ⟨_, _, rfl, ?_⟩
      have e : ((i : Int) + 1).toNat = i + 1 := by omega
      rw [e]
      simp
def numGo : List UInt8 → List UInt8 → Nat → Bool
  | [], cur, p => numB cur && decide (0 < p)
  | c :: t, cur, p => if digB c then numGo t (cur ++ [c]) p else if numB cur && c == 46 then numGo t [] (p + 1) else false
theorem numGo_split : ∀ (s cur : List UInt8) (p : Nat), ∃ f r, split s [46] = f :: r ∧ numGo s cur p = (((cur ++ f) :: r).all numB && decide (0 < p + r.length))
  | [], cur, p => ⟨[], [], split_nil, by simp [numGo]⟩
  | c :: t, cur, p => by
    by_cases hc : c = 46
    · subst hc
      obtain ⟨f, r, h1, h2⟩ := numGo_split t [] (p + 1)
      refine ⟨[], split t [46], split_dot t, ?_⟩
      rw [numGo, if_neg (by decide), h2, h1]
      have e : decide (0 < p + 1 + r.length) = decide (0 < p + (f :: r).length) := decide_eq_decide.2 (by simp only [List.length_cons]; omega)
      rw [e]
      cases hn : numB cur <;> simp [hn, Bool.and_assoc]
    · obtain ⟨f, r, h1, h2⟩ := split_other c t hc
      by_cases hd : digB c = true
      · obtain ⟨f', r', h3, h4⟩ := numGo_split t (cur ++ [c]) p
        rw [h1] at h3
        cases h3
        refine ⟨c :: f, r, h2, ?_⟩
        rw [numGo, if_pos hd, h4]
        simp
      · refine ⟨c :: f, r, h2, ?_⟩
        rw [numGo, if_neg hd, if_neg (by simp [hc])]
        have hz : numB (cur ++ c :: f) = false := by
          unfold numB
          have : (cur ++ c :: f).all digB = false := by simp [hd]
          rw [this, Bool.and_false]
        simp [hz]
theorem oid_numGo (s : List UInt8) : oidB s = numGo s [] 0 := by
  obtain ⟨f, r, h1, h2⟩ := numGo_split s [] 0
  rw [h2]
  unfold oidB
  rw [h1]
  simp
def tab64 : List UInt8 := [65, 66, 67, 68, 69, 70, 71, 72, 73, 74, 75, 76, 77, 78, 79, 80, 81, 82, 83, 84, 85, 86, 87, 88, 89, 90, 97, 98, 99, 100, 101, 102, 103, 104, 105, 106, 107, 108, 109, 110, 111, 112, 113, 114, 115, 116, 117, 118, 119, 120, 121, 122, 48, 49, 50, 51, 52, 53, 54, 55, 56, 57, 43, 47]
def dig (n : Nat) : UInt8 := tab64.getD n 0
def quad : List UInt8 → List UInt8
  | [a] => [dig (a.toNat / 4), dig (a.toNat % 4 * 16), 61, 61]
  | [a, b] => [dig (a.toNat / 4), dig (a.toNat % 4 * 16 + b.toNat / 16), dig (b.toNat % 16 * 4), 61]
  | a :: b :: c :: _ => [dig (a.toNat / 4), dig (a.toNat % 4 * 16 + b.toNat / 16), dig (b.toNat % 16 * 4 + c.toNat / 64), dig (c.toNat % 64)]
  | [] => []
def b64g : Nat → List UInt8 → List UInt8
  | 0, _ => []
  | n + 1, l => if l = [] then [] else quad l ++ b64g n (l.drop 3)
def b64 (l : List UInt8) : List UInt8 := b64g l.length l
theorem b64g_fuel : ∀ (n m : Nat) (l : List UInt8), l.length ≤ n → l.length ≤ m → b64g n l = b64g m l
  | 0, 0, _, _, _ => rfl
  | 0, m + 1, l, h, _ => by obtain rfl : l = [] := List.eq_nil_of_length_eq_zero (by omega); rfl
  | n + 1, 0, l, _, h => by obtain rfl : l = [] := List.eq_nil_of_length_eq_zero (by omega); rfl
  | n + 1, m + 1, l, h1, h2 => by
    by_cases h : l = []
    · subst h; rfl
    · have h0 : 0 < l.length := by cases l <;> simp_all
      rw [b64g, b64g, if_neg h, if_neg h, b64g_fuel n m (l.drop 3) (by rw [List.length_drop]; omega) (by rw [List.length_drop]; omega)]
theorem b64_nil : b64 [] = [] := rfl
theorem b64_step (l : List UInt8) (h : l ≠ []) : b64 l = quad l ++ b64 (l.drop 3) := by
  have h0 : 0 < l.length := by cases l <;> simp_all
  obtain ⟨n, hn⟩ : ∃ n, l.length = n + 1 := ⟨l.length - 1, by omega⟩
  unfold b64
  rw [hn, b64g, if_neg h]
  rw [b64g_fuel n (l.drop 3).length (l.drop 3) (by rw [List.length_drop]; omega) (Nat.le_refl _)]
theorem quad_length (l : List UInt8) (h : l ≠ []) : (quad l).length = 4 := by
  match l, h with
  | [a], _ => rfl
  | [a, b], _ => rfl
  | a :: b :: c :: t, _ => rfl
theorem b64_length : ∀ (n : Nat) (l : List UInt8), l.length ≤ n → (b64 l).length = (l.length + 2) / 3 * 4
  | n, [], _ => rfl
  | 0, a :: l, h => by simp at h
  | n + 1, a :: l, h => by
    rw [b64_step _ (by simp), List.length_append, quad_length _ (by simp), b64_length n ((a :: l).drop 3) (by rw [List.length_drop]; simp at h ⊢; omega), List.length_drop]
    simp only [List.length_cons]
    omega
theorem dig_ne (n : Nat) (h : n < 64) : dig n ≠ 61 ∧ indexByte tab64 (dig n) = n := by
  have : ∀ i : Fin 64, dig i.val ≠ 61 ∧ indexByte tab64 (dig i.val) = i.val := by decide +kernel
  exact this ⟨n, h⟩
theorem tab_lt (c : UInt8) : indexByte tab64 c < 64 := by
  have : ∀ i : Fin 256, indexByte tab64 (UInt8.ofNat i.val) < 64 := by decide +kernel
  have h := this ⟨c.toNat, UInt8.toNat_lt c⟩
  simpa using h
def dgo : List UInt8 → Nat → Nat → List UInt8 → Option (List UInt8)
  | [], _, _, out => some out
  | c :: t, x, n, out =>
    if indexByte tab64 c < 0 then none
    else if 8 ≤ n + 6 then dgo t ((x * 64 + (indexByte tab64 c).toNat) % 2 ^ (n - 2)) (n - 2) (out ++ [UInt8.ofNat ((x * 64 + (indexByte tab64 c).toNat) / 2 ^ (n - 2))])
    else dgo t (x * 64 + (indexByte tab64 c).toNat) (n + 6) out
def decB (s : List UInt8) : Option (List UInt8) := dgo (trimRightB s 61) 0 0 []
def unb (s : List UInt8) : Option (List UInt8) :=
  match decB s with
  | none => none
  | some out => if b64 out = s then some out else none
def body : List UInt8 → List UInt8
  | [a] => [dig (a.toNat / 4), dig (a.toNat % 4 * 16)]
  | [a, b] => [dig (a.toNat / 4), dig (a.toNat % 4 * 16 + b.toNat / 16), dig (b.toNat % 16 * 4)]
  | a :: b :: c :: _ => [dig (a.toNat / 4), dig (a.toNat % 4 * 16 + b.toNat / 16), dig (b.toNat % 16 * 4 + c.toNat / 64), dig (c.toNat % 64)]
  | [] => []
theorem step_dig (d : Nat) (h : d < 64) (t : List UInt8) (x n : Nat) (out : List UInt8) : dgo (dig d :: t) x n out =
    if 8 ≤ n + 6 then dgo t ((x * 64 + d) % 2 ^ (n - 2)) (n - 2) (out ++ [UInt8.ofNat ((x * 64 + d) / 2 ^ (n - 2))]) else dgo t (x * 64 + d) (n + 6) out := by
  rw [dgo, (dig_ne d h).2, if_neg (by omega), Int.toNat_natCast]
theorem u8_eq (b : UInt8) (n : Nat) (h : n = b.toNat) : UInt8.ofNat n = b := by subst h; simp
theorem dgo3 (a b c : UInt8) (t out : List UInt8) : dgo (dig (a.toNat / 4) :: dig (a.toNat % 4 * 16 + b.toNat / 16) :: dig (b.toNat % 16 * 4 + c.toNat / 64) :: dig (c.toNat % 64) :: t) 0 0 out = dgo t 0 0 (out ++ [a, b, c]) := by
  have ha := UInt8.toNat_lt a
  have hb := UInt8.toNat_lt b
  have hc := UInt8.toNat_lt c
  rw [step_dig _ (by omega), if_neg (by omega), step_dig _ (by omega), if_pos (by omega), step_dig _ (by omega), if_pos (by omega), step_dig _ (by omega), if_pos (by omega)]
  simp only [Nat.zero_add, Nat.zero_mul, Nat.reduceSub, Nat.reducePow]
  rw [u8_eq a _ (by omega), u8_eq b _ (by omega), u8_eq c _ (by omega)]
  rw [show (((a.toNat / 4 * 64 + (a.toNat % 4 * 16 + b.toNat / 16)) % 16 * 64 + (b.toNat % 16 * 4 + c.toNat / 64)) % 4 * 64 + c.toNat % 64) % 1 = 0 by omega]
  simp
theorem dgo2 (a b : UInt8) (out : List UInt8) : dgo [dig (a.toNat / 4), dig (a.toNat % 4 * 16 + b.toNat / 16), dig (b.toNat % 16 * 4)] 0 0 out = some (out ++ [a, b]) := by
  have ha := UInt8.toNat_lt a
  have hb := UInt8.toNat_lt b
  rw [step_dig _ (by omega), if_neg (by omega), step_dig _ (by omega), if_pos (by omega), step_dig _ (by omega), if_pos (by omega)]
  simp only [Nat.zero_add, Nat.zero_mul, Nat.reduceSub, Nat.reducePow, dgo]
  rw [u8_eq a _ (by omega), u8_eq b _ (by omega)]
  simp
theorem dgo1 (a : UInt8) (out : List UInt8) : dgo [dig (a.toNat / 4), dig (a.toNat % 4 * 16)] 0 0 out = some (out ++ [a]) := by
  have ha := UInt8.toNat_lt a
  rw [step_dig _ (by omega), if_neg (by omega), step_dig _ (by omega), if_pos (by omega)]
  simp only [Nat.zero_add, Nat.zero_mul, Nat.reduceSub, Nat.reducePow, dgo]
  rw [u8_eq a _ (by omega)]
theorem b64_form : ∀ (n : Nat) (l : List UInt8), l.length ≤ n → ∃ B p, b64 l = B ++ List.replicate p 61 ∧ (∀ c ∈ B, c ≠ 61) ∧ ∀ out, dgo B 0 0 out = some (out ++ l)
  | n, [], _ => ⟨[], 0, rfl, by simp, fun out => by simp [dgo]⟩
  | 0, a :: l, h => by simp at h
  | n + 1, [a], _ => by
    have ha := UInt8.toNat_lt a
    refine ⟨[dig (a.toNat / 4), dig (a.toNat % 4 * 16)], 2, rfl, ?_, fun out => dgo1 a out⟩
    intro c hc
    simp only [List.mem_cons, List.not_mem_nil, or_false] at hc
    rcases hc with rfl | rfl
    · exact (dig_ne _ (by omega)).1
    · exact (dig_ne _ (by omega)).1
  | n + 1, [a, b], _ => by
    have ha := UInt8.toNat_lt a
    have hb := UInt8.toNat_lt b
    refine ⟨[dig (a.toNat / 4), dig (a.toNat % 4 * 16 + b.toNat / 16), dig (b.toNat % 16 * 4)], 1, rfl, ?_, fun out => dgo2 a b out⟩
    intro c hc
    simp only [List.mem_cons, List.not_mem_nil, or_false] at hc
    rcases hc with rfl | rfl | rfl
    · exact (dig_ne _ (by omega)).1
    · exact (dig_ne _ (by omega)).1
    · exact (dig_ne _ (by omega)).1
  | n + 1, a :: b :: c :: l, h => by
    have ha := UInt8.toNat_lt a
    have hb := UInt8.toNat_lt b
    have hc := UInt8.toNat_lt c
    obtain ⟨B, p, h1, h2, h3⟩ := b64_form n l (by simp at h; omega)
    refine ⟨dig (a.toNat / 4) :: dig (a.toNat % 4 * 16 + b.toNat / 16) :: dig (b.toNat % 16 * 4 + c.toNat / 64) :: dig (c.toNat % 64) :: B, p, ?_, ?_, fun out => ?_⟩
    · rw [b64_step _ (by simp)]
      show quad (a :: b :: c :: l) ++ b64 l = _
      rw [h1]
      rfl
    · intro x hx
      simp only [List.mem_cons] at hx
      rcases hx with rfl | rfl | rfl | rfl | hx
      · exact (dig_ne _ (by omega)).1
      · exact (dig_ne _ (by omega)).1
      · exact (dig_ne _ (by omega)).1
      · exact (dig_ne _ (by omega)).1
      · exact h2 x hx
    · rw [dgo3, h3]
      simp
theorem trim_pads (B : List UInt8) (p : Nat) (h : ∀ c ∈ B, c ≠ 61) : trimRightB (B ++ List.replicate p 61) 61 = B := by
  unfold trimRightB
  rw [List.reverse_append, List.reverse_replicate]
  have : ∀ p, (List.replicate p (61 : UInt8) ++ B.reverse).dropWhile (· == 61) = B.reverse := by
    intro p
    induction p with
    | zero =>
      simp only [List.replicate_zero, List.nil_append]
      cases hB : B.reverse with
      | nil => rfl
      | cons x t =>
        rw [List.dropWhile_cons_of_neg]
        have : x ∈ B := List.mem_reverse.1 (by rw [hB]; simp)
        simpa using h x this
    | succ p ih => rw [List.replicate_succ, List.cons_append, List.dropWhile_cons_of_pos (by simp), ih]
  rw [this, List.reverse_reverse]
theorem decB_b64 (l : List UInt8) : decB (b64 l) = some l := by
  obtain ⟨B, p, h1, h2, h3⟩ := b64_form l.length l (Nat.le_refl _)
  unfold decB
  rw [h1, trim_pads B p h2, h3]
  rfl
theorem unb_b64 (l : List UInt8) : unb (b64 l) = some l := by
  unfold unb
  rw [decB_b64]
  simp
theorem unb_some (s b : List UInt8) : unb s = some b ↔ b64 b = s := by
  constructor
  · intro h
    unfold unb at h
    cases hd : decB s with
    | none => rw [hd] at h; cases h
    | some out =>
      rw [hd] at h
      simp only at h
      split at h
      · rename_i e; cases h; exact e
      · cases h
  · rintro rfl; exact unb_b64 b
theorem Tryz.infoByte : (Tryz.prog.info? 5).map (fun i => (i.zero, i.size, i.bytes)) = some (some (.int .u8 0), 1, 1) := by kernel_rfl
def xr (r : List UInt8) : Nat → Nat
  | 0 => 0
  | j + 1 => xr r j * 256 + (r.getD j 0).toNat
theorem xr_lt (r : List UInt8) : ∀ j, xr r j < 256 ^ j
  | 0 => by simp [xr]
  | j + 1 => by
    have := xr_lt r j
    have hb := UInt8.toNat_lt (r.getD j 0)
    rw [xr, Nat.pow_succ]
    omega
theorem wraps_i64 (n : Int) (h₀ : 0 ≤ n) (h₁ : n < 2 ^ 63) : IntKind.i64.wrap n = n := by
  obtain ⟨m, rfl⟩ := Int.eq_ofNat_of_zero_le h₀
  exact wrap_i64_small m (by omega)
theorem or_low (i : Nat) (x y : Nat) (hi : i < 60) (hx : x % 2 ^ i = 0) (hx₁ : x < 2 ^ 62) (hy : y < 2 ^ i) : bits .or .i64 (x : Int) (y : Int) = ((x + y : Nat) : Int) := by
  have hp : 2 ^ i < 2 ^ 60 := Nat.pow_lt_pow_right (by omega) hi
  rw [bits_join .i64 63 (by decide) wraps_i64 i (x : Int) (y : Int) (by omega) (by exact_mod_cast hx) (by omega) (by omega) (by exact_mod_cast hy) (by omega)]
  rfl
theorem and_low (m x y : Nat) (hm : m < 60) (hy : y = 2 ^ m - 1) (hx : x < 2 ^ 62) : bits .and .i64 (x : Int) (y : Int) = ((x % 2 ^ m : Nat) : Int) := by
  have hp : 2 ^ m < 2 ^ 60 := Nat.pow_lt_pow_right (by omega) hm
  show IntKind.i64.wrap ((BitVec.ofInt 64 (x : Int) &&& BitVec.ofInt 64 (y : Int)).toNat : Int) = _
  rw [BitVec.toNat_and, ofInt_u64 x (by omega), ofInt_u64 y (by omega), hy, Nat.and_two_pow_sub_one_eq_mod]
  exact wrap_i64_small _ (by have := Nat.mod_le x (2 ^ m); omega)
theorem wrap64_small (x : Nat) (h : x < 2 ^ 62) : wrap64 (x : Int) = (x : Int) := by unfold wrap64; omega
theorem xr_step (r : List UInt8) (j : Nat) (hj : j < 3) (h : j < r.length) : bits .or .i64 (wrap64 ((xr r j : Int) * 256)) (wrap64 (((⟨r.toArray⟩ : ByteArray)[j]'(by rw [Lib.size_mk]; exact h)).toNat : Int)) = (xr r (j + 1) : Nat) := by
  have h1 := xr_lt r j
  have h2 : 256 ^ j ≤ 256 ^ 2 := Nat.pow_le_pow_right (by omega) (by omega)
  have hb := UInt8.toNat_lt (r[j])
  have e : ((⟨r.toArray⟩ : ByteArray)[j]'(by rw [Lib.size_mk]; exact h)) = r[j] := rfl
  rw [e, wrap64_small _ (by omega), show (xr r j : Int) * 256 = ((xr r j * 256 : Nat) : Int) by omega, wrap64_small _ (by omega), or_low 8 _ _ (by omega) (by omega) (by omega) (by omega), xr]
  simp [h]
theorem xr_step0 (r : List UInt8) (j : Nat) (hj : j < 3) (h : ¬ j < r.length) : wrap64 ((xr r j : Int) * 256) = (xr r (j + 1) : Nat) := by
  have h1 := xr_lt r j
  have h2 : 256 ^ j ≤ 256 ^ 2 := Nat.pow_le_pow_right (by omega) (by omega)
  rw [show (xr r j : Int) * 256 = ((xr r j * 256 : Nat) : Int) by omega, wrap64_small _ (by omega), xr]
  have e : r.getD j 0 = 0 := by rw [List.getD_eq_getElem?_getD, List.getElem?_eq_none (by omega)]; rfl
  rw [e]
  simp
def qd (r : List UInt8) (i : Nat) : UInt8 := if r.length < i then 61 else dig (xr r 3 / 2 ^ (18 - 6 * i) % 64)
theorem quad_qd (r : List UInt8) (h : r ≠ []) : quad r = [qd r 0, qd r 1, qd r 2, qd r 3] := by
  match r, h with
  | [a], _ =>
    have ha := UInt8.toNat_lt a
    have hX : xr [a] 3 = a.toNat * 65536 := by simp [xr]; omega
    have e0 : qd [a] 0 = dig (a.toNat / 4) := by rw [qd, hX, if_neg (by simp)]; congr 1; simp only [Nat.mul_zero, Nat.sub_zero, Nat.reducePow]; omega
    have e1 : qd [a] 1 = dig (a.toNat % 4 * 16) := by rw [qd, hX, if_neg (by simp)]; congr 1; simp only [Nat.mul_one, Nat.reduceSub, Nat.reducePow]; omega
    rw [e0, e1]; rfl
  | [a, b], _ =>
    have ha := UInt8.toNat_lt a
    have hb := UInt8.toNat_lt b
    have hX : xr [a, b] 3 = a.toNat * 65536 + b.toNat * 256 := by simp [xr]; omega
    have e0 : qd [a, b] 0 = dig (a.toNat / 4) := by rw [qd, hX, if_neg (by simp)]; congr 1; simp only [Nat.mul_zero, Nat.sub_zero, Nat.reducePow]; omega
    have e1 : qd [a, b] 1 = dig (a.toNat % 4 * 16 + b.toNat / 16) := by rw [qd, hX, if_neg (by simp)]; congr 1; simp only [Nat.mul_one, Nat.reduceSub, Nat.reducePow]; omega
    have e2 : qd [a, b] 2 = dig (b.toNat % 16 * 4) := by rw [qd, hX, if_neg (by simp)]; congr 1; simp only [Nat.reduceMul, Nat.reduceSub, Nat.reducePow]; omega
    rw [e0, e1, e2]; rfl
  | a :: b :: c :: t, _ =>
    have ha := UInt8.toNat_lt a
    have hb := UInt8.toNat_lt b
    have hc := UInt8.toNat_lt c
    have hX : xr (a :: b :: c :: t) 3 = a.toNat * 65536 + b.toNat * 256 + c.toNat := by simp [xr]; omega
    have e0 : qd (a :: b :: c :: t) 0 = dig (a.toNat / 4) := by rw [qd, hX, if_neg (by simp)]; congr 1; simp only [Nat.mul_zero, Nat.sub_zero, Nat.reducePow]; omega
    have e1 : qd (a :: b :: c :: t) 1 = dig (a.toNat % 4 * 16 + b.toNat / 16) := by rw [qd, hX, if_neg (by simp)]; congr 1; simp only [Nat.mul_one, Nat.reduceSub, Nat.reducePow]; omega
    have e2 : qd (a :: b :: c :: t) 2 = dig (b.toNat % 16 * 4 + c.toNat / 64) := by rw [qd, hX, if_neg (by simp)]; congr 1; simp only [Nat.reduceMul, Nat.reduceSub, Nat.reducePow]; omega
    have e3 : qd (a :: b :: c :: t) 3 = dig (c.toNat % 64) := by rw [qd, hX, if_neg (by simp)]; congr 1; simp only [Nat.reduceMul, Nat.reduceSub, Nat.reducePow]; omega
    rw [e0, e1, e2, e3]; rfl
theorem quad_get (r : List UInt8) (h : r ≠ []) (i : Nat) (hi : i < 4) : (quad r).take (i + 1) = (quad r).take i ++ [qd r i] := by
  rw [quad_qd r h]
  match i, hi with
  | 0, _ => rfl
  | 1, _ => rfl
  | 2, _ => rfl
  | 3, _ => rfl
def QRel (w : World) (o r : List UInt8) (v k : Value) (wq : World) : Prop :=
  ∃ (i : Nat) (o' : List UInt8), k = .int .i64 (i : Int) ∧ i ≤ 4 ∧ o' = o ++ (quad r).take i ∧ wq.ownsRow w.heap.size 5 1 v o'.length (bV o') ∧ Below w.heap.size w wq
def BRel (w : World) (ANS : List UInt8) (b v : Value) (wr : World) : Prop :=
  ∃ r o : List UInt8, b = .string ⟨r.toArray⟩ ∧ r.length ≤ 1099511627776 ∧ o.length + 4 * r.length ≤ 8796093022208 ∧ wr.ownsRow w.heap.size 5 1 v o.length (bV o) ∧ Below w.heap.size w wr ∧ o ++ b64 r = ANS
theorem Base64_any (l : List UInt8) (w : World) (hl : l.length ≤ 1099511627776) :
    Calls Tryz.prog 30 #[.string ⟨l.toArray⟩] w fun e w' => e = .returned (.string ⟨(b64 l).toArray⟩) ∧ Below w.heap.size w w' := by
  obtain ⟨ANS, hN⟩ : ∃ ANS, b64 l = ANS := ⟨_, rfl⟩
  rw [hN]
  have HN := Lib.hid hN
  clear hN
  go_enter Tryz.func30, Tryz.ntmps30
  go_wp2_with fail
  go_loopw [0, 3] (fun b v wr => BRel w ANS b v wr) (fun b _ _ => (match b with | .string s => s.size | _ => 0))
  case atStart => exact ⟨l, [], rfl, hl, by simp; omega, World.ownsRow_nil _ _ _ _, Below.refl _ _, HN.out⟩
  case round =>
    obtain ⟨r, o, rfl, hr, ho, hown, hbe, hans⟩ := hrel
    have HA := Lib.hid hans
    clear hans HN
    by_cases hr0 : r = []
    · subst hr0
      have hs := HA.out
      rw [b64_nil, List.append_nil] at hs
      subst hs
      have hcv := run_str_own (P := Tryz.prog) wr 153 9 5 w.heap.size u3 o Tryz.underlying153 Tryz.underlying5 Tryz.underlying9 hown
      go_wp2_with fail
      go_ret
      exact ⟨rfl, hbe⟩
    · have hr1 : 0 < r.length := by cases r <;> simp_all
      have hne : r.isEmpty = false := by cases r <;> simp_all
      go_wp2_with fail
      go_loopw [4, 14] (fun x k wq => ∃ j : Nat, k = .int .i64 (j : Int) ∧ j ≤ 3 ∧ x = .int .i64 (xr r j : Nat) ∧ wq = wr) (fun _ k _ => (3 - RowKit.intOf k).toNat)
      case atStart => exact ⟨0, rfl, by omega, rfl, rfl⟩
      case round =>
        obtain ⟨j, rfl, hj, rfl, rfl⟩ := hrel
        by_cases hj3 : j < 3
        · by_cases hjr : j < r.length
          · have hst := xr_step r j hj3 hjr
            go_wp2_with fail
            refine ⟨⟨j + 1, by go_num, by omega, ?_, trivial⟩, ?_⟩
            · first | rfl | rw [hst]
            · show (3 - ((j : Int) + 1)).toNat < (3 - (j : Int)).toNat
              omega
          · have hst := xr_step0 r j hj3 hjr
            go_wp2_with fail
            refine ⟨⟨j + 1, by go_num, by omega, ?_, trivial⟩, ?_⟩
            · first | rfl | rw [hst]
            · show (3 - ((j : Int) + 1)).toNat < (3 - (j : Int)).toNat
              omega
        · obtain rfl : j = 3 := by omega
          have hX := xr_lt r 3
          obtain ⟨X, hXe⟩ : ∃ X, xr r 3 = X := ⟨_, rfl⟩
          rw [hXe] at hX ⊢
          go_wp2_with fail
          go_loopw [3, 30] (fun v k wq => QRel w o r v k wq) (fun _ k _ => (4 - RowKit.intOf k).toNat)
          case atStart => exact ⟨0, o, rfl, by omega, by simp, hown, hbe⟩
          case round =>
            clear hown hbe
            obtain ⟨i, o', rfl, hi, ho', hown, hbe⟩ := hrel
            have hsz := hbe.size
            have hbl : o.length + 4 ≤ 8796093022208 + 4 := by omega
            have hol : o'.length ≤ o.length + i := by rw [ho', List.length_append, List.length_take]; omega
            by_cases hi4 : i < 4
            · have hq := quad_get r hr0 i hi4
              obtain ⟨x, hx⟩ : ∃ x, qd r i = x := ⟨_, rfl⟩
              rw [hx] at hq
              have ho2 : o' ++ [x] = o ++ (quad r).take (i + 1) := by rw [hq, ho', List.append_assoc]
              obtain ⟨i0, hi0, hz0, hz1, hz2⟩ := info_parts Tryz.infoByte
              have D2 : ∀ u ∈ [Value.int .u8 x.toNat], u.oneCell' = true := by intro u hu; simp at hu; subst hu; rfl
              have D3 : o'.length + 1 ≤ maxLen := by unfold maxLen; omega
              have D4 : (o'.length + 1) * 1 ≤ 140737488355328 := by omega
              have D5 : w.heap.size ≤ (wr.alloc (.cells #[.int .u8 x.toNat] 5)).heap.size := by simp; omega
              have fin : ∀ (v' : Value) (w3 : World), w3.ownsRow w.heap.size 5 1 v' (o'.length + 1) (bV o' ++ [.int .u8 x.toNat]) → (wr.alloc (.cells #[.int .u8 x.toNat] 5)).grownBy w3 u3.ownBlock → QRel w o r v' (.int .i64 ((i : Int) + 1)) w3 := by
                intro v' w3 ho hg
                refine ⟨i + 1, o' ++ [x], by rw [Int.natCast_add]; rfl, by omega, ho2, ?_, ?_⟩
                · rw [List.length_append, bV_append]
                  exact ho
                · exact (hbe.alloc hbe.size _).grown hg (by simp; omega) (fun b hb => (hown.lt b hb).1)
              have FIN := Lib.hid fin
              have HO := Lib.hid ho2
              clear fin ho2 hq ho'
              by_cases hir : r.length < i
              · have hx61 : x = 61 := by rw [← hx, qd, if_pos hir]
                subst hx61
                clear hx
                go_wp2_with (at_builtin; refine wpList_append_own _ rfl (.tmp 37) (.tmp 38) 153 rfl w.heap.size 5 i0 (.int .u8 0) 1 1 Tryz.underlying153 hi0 hz0 hz1 hz2 rfl (by decide) u3 o'.length (bV o') rfl (hown.alloc _) ⟨wr.heap.size, 0, none⟩ 1 1 [.int .u8 ((61 : UInt8).toNat)] rfl rfl (cell_one_new _ _ _) D2 D3 D4 D5 ?_; intro v' w3 ho3 hg3 _)
                go_roundw
                case rel => exact ⟨_, _, _, _, _, _, _, _, _, _, _, _, _, _, _, _, _, _, _, _, _, _, _, FIN.out _ w3 ho3 hg3, rfl⟩
                case measure => simp [RowKit.intOf]; omega
              · have hx2 : dig (X / 2 ^ (18 - 6 * i) % 64) = x := by rw [← hx, qd, if_neg hir, hXe]
                clear hx
                have hn := Nat.mod_lt (X / 2 ^ (18 - 6 * i)) (show 64 > 0 by omega)
                obtain ⟨n, hnx⟩ : ∃ n, X / 2 ^ (18 - 6 * i) % 64 = n := ⟨_, rfl⟩
                rw [hnx] at hx2 hn
                have hlit : ∀ h, (⟨#[65, 66, 67, 68, 69, 70, 71, 72, 73, 74, 75, 76, 77, 78, 79, 80, 81, 82, 83, 84, 85, 86, 87, 88, 89, 90, 97, 98, 99, 100, 101, 102, 103, 104, 105, 106, 107, 108, 109, 110, 111, 112, 113, 114, 115, 116, 117, 118, 119, 120, 121, 122, 48, 49, 50, 51, 52, 53, 54, 55, 56, 57, 43, 47]⟩ : ByteArray)[n]'h = x := by
                  intro h
                  rw [← hx2, dig, List.getD_eq_getElem?_getD]
                  show tab64[n]'hn = _
                  rw [List.getElem?_eq_getElem hn]
                  rfl
                clear hx2
                match i, hi4 with
                | 0, _ =>
                  have hand : bits .and .i64 ((X : Int) / 262144) 63 = (n : Int) := by
                    rw [← hnx]
                    have := and_low 6 (X / 262144) 63 (by omega) (by omega) (by omega)
                    simpa using this
                  clear hnx
                  go_wp2_with (at_builtin; (try simp only [hlit]); refine wpList_append_own _ rfl (.tmp 40) (.tmp 48) 153 rfl w.heap.size 5 i0 (.int .u8 0) 1 1 Tryz.underlying153 hi0 hz0 hz1 hz2 rfl (by decide) u3 o'.length (bV o') rfl (hown.alloc _) ⟨wr.heap.size, 0, none⟩ 1 1 [.int .u8 x.toNat] rfl rfl (cell_one_new _ _ _) D2 D3 D4 D5 ?_; intro v' w3 ho3 hg3 _)
                  go_roundw
                  case rel => exact ⟨_, _, _, FIN.out _ w3 ho3 hg3, rfl, rfl, rfl⟩
                  case measure => decide
                | 1, _ =>
                  have hand : bits .and .i64 ((X : Int) / 4096) 63 = (n : Int) := by
                    rw [← hnx]
                    have := and_low 6 (X / 4096) 63 (by omega) (by omega) (by omega)
                    simpa using this
                  clear hnx
                  go_wp2_with (at_builtin; (try simp only [hlit]); refine wpList_append_own _ rfl (.tmp 40) (.tmp 48) 153 rfl w.heap.size 5 i0 (.int .u8 0) 1 1 Tryz.underlying153 hi0 hz0 hz1 hz2 rfl (by decide) u3 o'.length (bV o') rfl (hown.alloc _) ⟨wr.heap.size, 0, none⟩ 1 1 [.int .u8 x.toNat] rfl rfl (cell_one_new _ _ _) D2 D3 D4 D5 ?_; intro v' w3 ho3 hg3 _)
                  go_roundw
                  case rel => exact ⟨_, _, _, FIN.out _ w3 ho3 hg3, rfl, rfl, rfl⟩
                  case measure => decide
                | 2, _ =>
                  have hand : bits .and .i64 ((X : Int) / 64) 63 = (n : Int) := by
                    rw [← hnx]
                    have := and_low 6 (X / 64) 63 (by omega) (by omega) (by omega)
                    simpa using this
                  clear hnx
                  go_wp2_with (at_builtin; (try simp only [hlit]); refine wpList_append_own _ rfl (.tmp 40) (.tmp 48) 153 rfl w.heap.size 5 i0 (.int .u8 0) 1 1 Tryz.underlying153 hi0 hz0 hz1 hz2 rfl (by decide) u3 o'.length (bV o') rfl (hown.alloc _) ⟨wr.heap.size, 0, none⟩ 1 1 [.int .u8 x.toNat] rfl rfl (cell_one_new _ _ _) D2 D3 D4 D5 ?_; intro v' w3 ho3 hg3 _)
                  go_roundw
                  case rel => exact ⟨_, _, _, FIN.out _ w3 ho3 hg3, rfl, rfl, rfl⟩
                  case measure => decide
                | 3, _ =>
                  have hand : bits .and .i64 ((X : Int)) 63 = (n : Int) := by
                    rw [← hnx]
                    have := and_low 6 (X / 1) 63 (by omega) (by omega) (by omega)
                    simpa using this
                  clear hnx
                  go_wp2_with (at_builtin; (try simp only [hlit]); refine wpList_append_own _ rfl (.tmp 40) (.tmp 48) 153 rfl w.heap.size 5 i0 (.int .u8 0) 1 1 Tryz.underlying153 hi0 hz0 hz1 hz2 rfl (by decide) u3 o'.length (bV o') rfl (hown.alloc _) ⟨wr.heap.size, 0, none⟩ 1 1 [.int .u8 x.toNat] rfl rfl (cell_one_new _ _ _) D2 D3 D4 D5 ?_; intro v' w3 ho3 hg3 _)
                  go_roundw
                  case rel => exact ⟨_, _, _, FIN.out _ w3 ho3 hg3, rfl, rfl, rfl⟩
                  case measure => decide
            · obtain rfl : i = 4 := by omega
              have hlen : 4 ≤ (quad r).length := by rw [quad_length r hr0]; omega
              rw [List.take_of_length_le (by rw [quad_length r hr0]; omega)] at ho'
              have hs := HA.out
              rw [b64_step r hr0, ← List.append_assoc, ← ho'] at hs
              have HS := Lib.hid hs
              have holen : o'.length = o.length + 4 := by rw [ho', List.length_append, quad_length r hr0]
              clear hs ho' hlen
              go_wp2_with fail
              have hex : (⟨r.toArray⟩ : ByteArray).extract (min 3 (r.length : Int)).toNat r.length = ⟨(r.drop 3).toArray⟩ := by
                rw [Lib.extract_mk]
                rcases Nat.lt_or_ge r.length 3 with h3 | h3
                · rw [show (min 3 (r.length : Int)).toNat = r.length by omega, List.drop_of_length_le (Nat.le_refl _), List.drop_of_length_le (by omega)]
                  simp
                · rw [show (min 3 (r.length : Int)).toNat = 3 by omega, List.take_of_length_le (by rw [List.length_drop]; omega)]
              refine ⟨⟨r.drop 3, o', by rw [hex], by rw [List.length_drop]; omega, ?_, hown, hbe, HS.out⟩, ?_⟩
              · rw [List.length_drop]
                omega
              · rw [hex]
                show (⟨(r.drop 3).toArray⟩ : ByteArray).size < (⟨r.toArray⟩ : ByteArray).size
                rw [Lib.size_mk, Lib.size_mk, List.length_drop]
                omega
end Go.Proofs.YtegigcneimjimaaGreatDoor
