/-
  NARROWER THAN 'FOR EVERY INPUT', by the rows' own cells (each row's printed sentence says how): DnBack: laid · DnEscapes: laid · DnParses: laid · DnJoined: laid.
  DERIVED. THE GIVEN ROWS OF THIS SEAT. 4 by the template 'for every input the law returns true; each argument reads behind the call as it read before'; 0 by the template 'total and deterministic' (their statements: YtldcfilhgdjaeaaDoorTotals.lean).
  GIVEN WITH THE SEED: the statements are not yours to turn. If you find one false, say at which input.
  Laid BY PROGRAM, IN A SANDBOX (cutbox-rows.mjs): the forced cells as the released guide's own fill.sh prints them over the translation 859fd407b3748240… (all of the seat's roots in one cut). By AI agents, Wed Nov 11 2026. No macro, syntax, notation, axiom, sorry.
-/
import Derived.Test.YtldcfilhgdjaeaaDoorChecked
import GoSem.PinnedTables
import GoSem.Claim
import GoSem.ClaimJoined
import GoSem.ClaimMapViews
import Derived.JoinedTies
import Derived.KernelRfl
namespace Go.Proofs.YtldcfilhgdjaeaaDoor
/- THE CELL 'sum', in the pinned program and in every row, IS THE sha256 OF THE DUMP (.gsa) THAT YtldcfilhgdjaeaaDoorProg.lean LOADS. Nothing in Lean hashes anything: it is a label: what it is worth is what the hold of that sum in a sandbox is worth. -/
noncomputable def Tryd.pinned : Pinned := { name := "ytldcfilhgdjaeaadoor", sum := "859fd407b37482401eb066b530cc9f87a99f6f187fb8200d33d43864f1543bd8", checked := Tryd.checked }
namespace Rows
def none {H : Type} : Left H := { results := [], args := [] }

/- WHAT THE LISTED PACKAGE-LEVEL VARIABLES READ AS WHEN THE CALL BEGINS. Each datum BY PROGRAM (the guide's laid-datum.mjs) off the statement by which the dump's own 'gosem.cut.vars' lays the variable. In a bare row this is a premise. The card (YtldcfilhgdjaeaaDoorCards.lean) ties it to the program's text. -/
def laid_unicode_utf8_acceptRanges {H : Type} : DataW H := .agg [.agg [.lit (.int .u8 128), .lit (.int .u8 191)], .agg [.lit (.int .u8 160), .lit (.int .u8 191)], .agg [.lit (.int .u8 128), .lit (.int .u8 159)], .agg [.lit (.int .u8 144), .lit (.int .u8 191)], .agg [.lit (.int .u8 128), .lit (.int .u8 143)], .agg [.lit (.int .u8 0), .lit (.int .u8 0)], .agg [.lit (.int .u8 0), .lit (.int .u8 0)], .agg [.lit (.int .u8 0), .lit (.int .u8 0)], .agg [.lit (.int .u8 0), .lit (.int .u8 0)], .agg [.lit (.int .u8 0), .lit (.int .u8 0)], .agg [.lit (.int .u8 0), .lit (.int .u8 0)], .agg [.lit (.int .u8 0), .lit (.int .u8 0)], .agg [.lit (.int .u8 0), .lit (.int .u8 0)], .agg [.lit (.int .u8 0), .lit (.int .u8 0)], .agg [.lit (.int .u8 0), .lit (.int .u8 0)], .agg [.lit (.int .u8 0), .lit (.int .u8 0)]]
/-- One of Go's own tables, pinned by name: the form's constant. -/
def laid_unicode_utf8_first : DataW Unit := Go.Pinned.utf8First

/-- 'chancerylaw4.DnBack': WHATEVER THE INPUT: true; the input reads as it did. -/
def dnBackSpec : ChangeSpec := { name := "dnBack", fn := fun _ => fun
  | [d1, d2] => { results := [.lit (.bool true)], args := [d1, d2] }
  | _ => none }
def dnBackRow : OpenClaim := { program := "ytldcfilhgdjaeaadoor", sum := "859fd407b37482401eb066b530cc9f87a99f6f187fb8200d33d43864f1543bd8", func := "chancery/chancerylaw4.DnBack", spec := "dnBack", inPlace := ["internal/bytealg.CountString", "internal/bytealg.IndexByteString", "internal/bytealg.IndexString", "internal/abi.NoEscape", "internal/bytealg.MakeNoZero"], unfollowed := true, recurses := true, named := ["unicode/utf8.first", "unicode/utf8.acceptRanges", "internal/bytealg.MaxLen"], apart := false, laid := [("unicode/utf8.acceptRanges", laid_unicode_utf8_acceptRanges), ("unicode/utf8.first", laid_unicode_utf8_first)] }
def DnBackSaid : Prop := dnBackRow.holds Tryd.pinned (OpenSpec.ofChange dnBackSpec)

/-- ITS FALSE NEIGHBOUR: 'it returns false'. Refute it at one input. -/
def dnBackWrong : ChangeSpec := { name := "dnBack", fn := fun _ => fun
  | [d1, d2] => { results := [.lit (.bool false)], args := [d1, d2] }
  | _ => none }
def DnBackWrongFalsely : Prop := dnBackRow.holds Tryd.pinned (OpenSpec.ofChange dnBackWrong)

/-- 'chancerylaw4.DnEscapes': WHATEVER THE INPUT: true; the input reads as it did. -/
def dnEscapesSpec : ChangeSpec := { name := "dnEscapes", fn := fun _ => fun
  | [d] => { results := [.lit (.bool true)], args := [d] }
  | _ => none }
def dnEscapesRow : OpenClaim := { program := "ytldcfilhgdjaeaadoor", sum := "859fd407b37482401eb066b530cc9f87a99f6f187fb8200d33d43864f1543bd8", func := "chancery/chancerylaw4.DnEscapes", spec := "dnEscapes", inPlace := ["internal/bytealg.CountString", "internal/bytealg.IndexByteString", "internal/bytealg.IndexString", "internal/abi.NoEscape", "internal/bytealg.MakeNoZero"], unfollowed := true, recurses := true, named := ["unicode/utf8.first", "unicode/utf8.acceptRanges", "internal/bytealg.MaxLen"], apart := false, laid := [("unicode/utf8.acceptRanges", laid_unicode_utf8_acceptRanges), ("unicode/utf8.first", laid_unicode_utf8_first)] }
def DnEscapesSaid : Prop := dnEscapesRow.holds Tryd.pinned (OpenSpec.ofChange dnEscapesSpec)

/-- ITS FALSE NEIGHBOUR: 'it returns false'. Refute it at one input. -/
def dnEscapesWrong : ChangeSpec := { name := "dnEscapes", fn := fun _ => fun
  | [d] => { results := [.lit (.bool false)], args := [d] }
  | _ => none }
def DnEscapesWrongFalsely : Prop := dnEscapesRow.holds Tryd.pinned (OpenSpec.ofChange dnEscapesWrong)

/-- 'chancerylaw4.DnParses': WHATEVER THE INPUT: true; the input reads as it did. -/
def dnParsesSpec : ChangeSpec := { name := "dnParses", fn := fun _ => fun
  | [d] => { results := [.lit (.bool true)], args := [d] }
  | _ => none }
def dnParsesRow : OpenClaim := { program := "ytldcfilhgdjaeaadoor", sum := "859fd407b37482401eb066b530cc9f87a99f6f187fb8200d33d43864f1543bd8", func := "chancery/chancerylaw4.DnParses", spec := "dnParses", inPlace := ["internal/bytealg.CountString", "internal/bytealg.IndexByteString", "internal/bytealg.IndexString", "internal/abi.NoEscape", "internal/bytealg.MakeNoZero"], unfollowed := true, recurses := true, named := ["unicode/utf8.first", "unicode/utf8.acceptRanges", "internal/bytealg.MaxLen"], apart := false, laid := [("unicode/utf8.acceptRanges", laid_unicode_utf8_acceptRanges), ("unicode/utf8.first", laid_unicode_utf8_first)] }
def DnParsesSaid : Prop := dnParsesRow.holds Tryd.pinned (OpenSpec.ofChange dnParsesSpec)

/-- ITS FALSE NEIGHBOUR: 'it returns false'. Refute it at one input. -/
def dnParsesWrong : ChangeSpec := { name := "dnParses", fn := fun _ => fun
  | [d] => { results := [.lit (.bool false)], args := [d] }
  | _ => none }
def DnParsesWrongFalsely : Prop := dnParsesRow.holds Tryd.pinned (OpenSpec.ofChange dnParsesWrong)

/-- 'chancerylaw4.DnJoined': WHATEVER THE INPUT: true; the input reads as it did. -/
def dnJoinedSpec : ChangeSpec := { name := "dnJoined", fn := fun _ => fun
  | [d1, d2] => { results := [.lit (.bool true)], args := [d1, d2] }
  | _ => none }
def dnJoinedRow : OpenClaim := { program := "ytldcfilhgdjaeaadoor", sum := "859fd407b37482401eb066b530cc9f87a99f6f187fb8200d33d43864f1543bd8", func := "chancery/chancerylaw4.DnJoined", spec := "dnJoined", inPlace := ["internal/bytealg.CountString", "internal/bytealg.IndexByteString", "internal/bytealg.IndexString", "internal/abi.NoEscape", "internal/bytealg.MakeNoZero"], unfollowed := true, recurses := true, named := ["unicode/utf8.first", "unicode/utf8.acceptRanges", "internal/bytealg.MaxLen"], apart := false, laid := [("unicode/utf8.acceptRanges", laid_unicode_utf8_acceptRanges), ("unicode/utf8.first", laid_unicode_utf8_first)] }
def DnJoinedSaid : Prop := dnJoinedRow.holds Tryd.pinned (OpenSpec.ofChange dnJoinedSpec)

/-- ITS FALSE NEIGHBOUR: 'it returns false'. Refute it at one input. -/
def dnJoinedWrong : ChangeSpec := { name := "dnJoined", fn := fun _ => fun
  | [d1, d2] => { results := [.lit (.bool false)], args := [d1, d2] }
  | _ => none }
def DnJoinedWrongFalsely : Prop := dnJoinedRow.holds Tryd.pinned (OpenSpec.ofChange dnJoinedWrong)

/- THE SECOND FORM. 'bulk': how many values and letters a reading holds, each counted each time it is reached (what is shared counts as often as it is met; a slice's spare places count too). A statement '..UptoSaid' is the law's where the arguments, and the package variables that the reading takes, are together of bulk at most 1048576: NARROWER than '..Said'. Prove '..Said' where nothing that the law and all that it calls make is longer than what came in: it says more and counts as full. Else prove '..UptoSaid'. A law counts once. -/
mutual
def uptoBulk {H : Type} : DataW H → Nat
  | .lit (.string bytes) => bytes.length + 1
  | .lit _ => 1
  | .nil => 1
  | .ptr d => uptoBulk d + 1
  | .slice elems spare => uptoBulkAll elems + uptoBulkAll spare + 1
  | .agg parts => uptoBulkAll parts + 1
  | .iface _ d => uptoBulk d + 1
  | .map entries => uptoBulkEntries entries + 1
  | .held _ => 1
def uptoBulkAll {H : Type} : List (DataW H) → Nat
  | [] => 0
  | d :: r => uptoBulk d + uptoBulkAll r
def uptoBulkEntries {H : Type} : List (Lit × DataW H) → Nat
  | [] => 0
  | x :: r => uptoBulkEntry x + uptoBulkEntries r
def uptoBulkEntry {H : Type} : Lit × DataW H → Nat
  | (.string bytes, d) => bytes.length + uptoBulk d + 1
  | (_, d) => uptoBulk d + 1
 end
def uptoSmall : (H : Type) → List (DataW H) → Bool := fun _ ds => decide (uptoBulkAll ds ≤ 1048576)
def OpenSpec.upto (s : _root_.Go.ChangeSpec) : _root_.Go.OpenSpec := { _root_.Go.OpenSpec.ofChange s with cond := some uptoSmall }

/-- 'chancerylaw4.DnBack', WHERE WHAT IT READS IS OF BULK AT MOST 1048576: true; the input reads as it did. -/
def dnBackUptoRow : OpenClaim := { program := "ytldcfilhgdjaeaadoor", sum := "859fd407b37482401eb066b530cc9f87a99f6f187fb8200d33d43864f1543bd8", func := "chancery/chancerylaw4.DnBack", spec := "dnBack", inPlace := ["internal/bytealg.CountString", "internal/bytealg.IndexByteString", "internal/bytealg.IndexString", "internal/abi.NoEscape", "internal/bytealg.MakeNoZero"], unfollowed := true, recurses := true, named := ["unicode/utf8.first", "unicode/utf8.acceptRanges", "internal/bytealg.MaxLen"], apart := false, laid := [("unicode/utf8.acceptRanges", laid_unicode_utf8_acceptRanges), ("unicode/utf8.first", laid_unicode_utf8_first)], narrowed := true }
def DnBackUptoSaid : Prop := dnBackUptoRow.holds Tryd.pinned (OpenSpec.upto dnBackSpec)

/-- 'chancerylaw4.DnEscapes', WHERE WHAT IT READS IS OF BULK AT MOST 1048576: true; the input reads as it did. -/
def dnEscapesUptoRow : OpenClaim := { program := "ytldcfilhgdjaeaadoor", sum := "859fd407b37482401eb066b530cc9f87a99f6f187fb8200d33d43864f1543bd8", func := "chancery/chancerylaw4.DnEscapes", spec := "dnEscapes", inPlace := ["internal/bytealg.CountString", "internal/bytealg.IndexByteString", "internal/bytealg.IndexString", "internal/abi.NoEscape", "internal/bytealg.MakeNoZero"], unfollowed := true, recurses := true, named := ["unicode/utf8.first", "unicode/utf8.acceptRanges", "internal/bytealg.MaxLen"], apart := false, laid := [("unicode/utf8.acceptRanges", laid_unicode_utf8_acceptRanges), ("unicode/utf8.first", laid_unicode_utf8_first)], narrowed := true }
def DnEscapesUptoSaid : Prop := dnEscapesUptoRow.holds Tryd.pinned (OpenSpec.upto dnEscapesSpec)

/-- 'chancerylaw4.DnParses', WHERE WHAT IT READS IS OF BULK AT MOST 1048576: true; the input reads as it did. -/
def dnParsesUptoRow : OpenClaim := { program := "ytldcfilhgdjaeaadoor", sum := "859fd407b37482401eb066b530cc9f87a99f6f187fb8200d33d43864f1543bd8", func := "chancery/chancerylaw4.DnParses", spec := "dnParses", inPlace := ["internal/bytealg.CountString", "internal/bytealg.IndexByteString", "internal/bytealg.IndexString", "internal/abi.NoEscape", "internal/bytealg.MakeNoZero"], unfollowed := true, recurses := true, named := ["unicode/utf8.first", "unicode/utf8.acceptRanges", "internal/bytealg.MaxLen"], apart := false, laid := [("unicode/utf8.acceptRanges", laid_unicode_utf8_acceptRanges), ("unicode/utf8.first", laid_unicode_utf8_first)], narrowed := true }
def DnParsesUptoSaid : Prop := dnParsesUptoRow.holds Tryd.pinned (OpenSpec.upto dnParsesSpec)

/-- 'chancerylaw4.DnJoined', WHERE WHAT IT READS IS OF BULK AT MOST 1048576: true; the input reads as it did. -/
def dnJoinedUptoRow : OpenClaim := { program := "ytldcfilhgdjaeaadoor", sum := "859fd407b37482401eb066b530cc9f87a99f6f187fb8200d33d43864f1543bd8", func := "chancery/chancerylaw4.DnJoined", spec := "dnJoined", inPlace := ["internal/bytealg.CountString", "internal/bytealg.IndexByteString", "internal/bytealg.IndexString", "internal/abi.NoEscape", "internal/bytealg.MakeNoZero"], unfollowed := true, recurses := true, named := ["unicode/utf8.first", "unicode/utf8.acceptRanges", "internal/bytealg.MaxLen"], apart := false, laid := [("unicode/utf8.acceptRanges", laid_unicode_utf8_acceptRanges), ("unicode/utf8.first", laid_unicode_utf8_first)], narrowed := true }
def DnJoinedUptoSaid : Prop := dnJoinedUptoRow.holds Tryd.pinned (OpenSpec.upto dnJoinedSpec)

end Rows
end Go.Proofs.YtldcfilhgdjaeaaDoor
