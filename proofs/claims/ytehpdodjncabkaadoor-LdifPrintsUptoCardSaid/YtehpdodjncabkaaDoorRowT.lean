/- A whole struct, by value, out of a block and into a block: one step each, whatever the cells are. -/
import Derived.Laws.Rows
import Derived.Laws.Tables
import Derived.Test.YtehpdodjncabkaaDoorBkD
namespace Go.Proofs.YtehpdodjncabkaaDoor
open Go.RowKit Go.Lib
theorem wpList_loadRow {P : Program} {w : World} {ops : Array Oper} {rest : List Oper} {o : Oper} {a : Act} {Q : Exit → Act → World → Prop} (hgd : o.guard = none) (t : TypeId) (x : Operand) (ho : o.op = .load t x)
    (g : Nat) (ty : TypeId) (cs : Array Value) (fr : Nat × Nat) (hx : a.eval x = .pointer (some ⟨g, 0, none⟩)) (hg : w.heap[g]? = some (.cells cs ty fr)) (d : TypeDesc) (hu : P.underlying t = some d)
    (hd : (match d with | .struct _ | .array _ _ => true | _ => false) = true) (hi : (P.info? t).map (·.size) = some cs.size)
    (h : wpList P ops Q rest (a.put o.dst (.agg cs)) w) : wpList P ops Q (o :: rest) a w := by
  refine wpList_plain hgd fun K hK => ?_
  have hr := run_loadVar_row (P := P) w g ty t cs fr d hg hu hd hi
  unfold Oper.wp execOp
  simp only [ho, hx, Instr.loadAt, Instr.sureAddr, Sem.run_bind, Sem.run_pure, Result.andThen_ok, hr]
  exact hK _ _ h
theorem wpList_storeRow {P : Program} {w : World} {ops : Array Oper} {rest : List Oper} {o : Oper} {a : Act} {Q : Exit → Act → World → Prop} (hgd : o.guard = none) (t : TypeId) (x y : Operand) (ho : o.op = .store t x y)
    (g : Nat) (ty : TypeId) (old cs : Array Value) (hx : a.eval x = .pointer (some ⟨g, 0, none⟩)) (hy : a.eval y = .agg cs) (hg : w.heap[g]? = some (.cells old ty (0, 0))) (hi : (P.info? t).map (·.size) = some cs.size) (hs : old.size = cs.size) (h1 : cs.all (·.oneCell') = true)
    (h : wpList P ops Q rest (a.put o.dst (.tuple #[])) (w.setRow g cs)) : wpList P ops Q (o :: rest) a w := by
  refine wpList_plain hgd fun K hK => ?_
  have hr := run_storeVar_row (P := P) w g ty t old cs hg hi hs h1
  unfold Oper.wp execOp
  simp only [ho, hx, hy, Instr.storeAt, Instr.sureAddr, Sem.run_bind, Sem.run_pure, Result.andThen_ok, hr]
  exact hK _ _ h
theorem grown_row (w : World) (b : Nat) (cs : Array Value) : w.grownBy (w.setRow b cs) (some b) :=
  ⟨rfl, rfl, rfl, by simp [World.setRow], fun k _ hne => setRow_other w b k cs (fun e => hne (congrArg some e))⟩
theorem row_kept {w : World} {b : Nat} {x : Array Value} {cs : Array Value} {t : TypeId} {base e size n : Nat} {v : Value} {xs : List Value} (h : w.ownsRow base e size v n xs) (hb : w.heap[b]? = some (.cells cs t (0, 0))) (ht : e ≠ t) : (w.setRow b x).ownsRow base e size v n xs :=
  h.kept (grown_row w b x) (.inr (own_ne h hb ht))
theorem below_row {B g : Nat} {a w : World} (h : Below B a w) (hg : B ≤ g) (cs : Array Value) : Below B a (w.setRow g cs) :=
  h.trans ⟨rfl, rfl, rfl, by simp [World.setRow], fun k hk => setRow_other w g k cs (by omega)⟩
theorem OwnM.row {B b : Nat} {w : World} {v : Value} {x : Array Value} {ml : List Md} {us : List Value} {cs : Array Value} {t : TypeId} (h : OwnM B w v ml us) (hb : w.heap[b]? = some (.cells cs t (0, 0))) (h1 : 53 ≠ t) (h2 : 9 ≠ t) : OwnM B (w.setRow b x) v ml us :=
  ⟨row_kept h.1 hb h1, h.2.1, fun j y u q1 q2 => row_kept (h.2.2 j y u q1 q2) hb h2⟩
theorem OwnA.row {B b : Nat} {w : World} {v : Value} {x : Array Value} {al : List At} {us : List Value} {cs : Array Value} {t : TypeId} (h : OwnA B w v al us) (hb : w.heap[b]? = some (.cells cs t (0, 0))) (h1 : 51 ≠ t) (h2 : 9 ≠ t) : OwnA B (w.setRow b x) v al us :=
  ⟨row_kept h.1 hb h1, h.2.1, fun j y u q1 q2 => row_kept (h.2.2 j y u q1 q2) hb h2⟩
end Go.Proofs.YtehpdodjncabkaaDoor
