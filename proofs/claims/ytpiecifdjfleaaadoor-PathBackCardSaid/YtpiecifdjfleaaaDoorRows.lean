/-
  NARROWER THAN 'FOR EVERY INPUT', by the rows' own cells (each row's printed sentence says how): PathValids: laid · PathCompares: laid · PathSplits: laid · PathNeighbours: laid · PathUnders: laid · PathPieces: laid · PathBack: laid.
  DERIVED. THE GIVEN ROWS OF THIS SEAT. 7 by the template 'for every input the law returns true; each argument reads behind the call as it read before'; 0 by the template 'total and deterministic' (their statements: YtpiecifdjfleaaaDoorTotals.lean).
  GIVEN WITH THE SEED: the statements are not yours to turn. If you find one false, say at which input.
  Laid BY PROGRAM, IN A SANDBOX (cutbox-rows.mjs): the forced cells as the released guide's own fill.sh prints them over the translation c349c8d4e08efadd… (all of the seat's roots in one cut). By AI agents, Wed Nov 11 2026. No macro, syntax, notation, axiom, sorry.
-/
import Derived.Test.YtpiecifdjfleaaaDoorChecked
import GoSem.PinnedTables
import GoSem.Claim
import GoSem.ClaimJoined
import GoSem.ClaimMapViews
import Derived.JoinedTies
import Derived.KernelRfl
namespace Go.Proofs.YtpiecifdjfleaaaDoor
/- THE CELL 'sum', in the pinned program and in every row, IS THE sha256 OF THE DUMP (.gsa) THAT YtpiecifdjfleaaaDoorProg.lean LOADS. Nothing in Lean hashes anything: it is a label: what it is worth is what the hold of that sum in a sandbox is worth. -/
noncomputable def Tryd.pinned : Pinned := { name := "ytpiecifdjfleaaadoor", sum := "c349c8d4e08efadde45dfd324bf7e02fdb33f0ea458dc18820a1ced8aa59f830", checked := Tryd.checked }
namespace Rows
def none {H : Type} : Left H := { results := [], args := [] }

/- WHAT THE LISTED PACKAGE-LEVEL VARIABLES READ AS WHEN THE CALL BEGINS. Each datum BY PROGRAM (the guide's laid-datum.mjs) off the statement by which the dump's own 'gosem.cut.vars' lays the variable. In a bare row this is a premise. The card (YtpiecifdjfleaaaDoorCards.lean) ties it to the program's text. -/
def laid_unicode_utf8_acceptRanges {H : Type} : DataW H := .agg [.agg [.lit (.int .u8 128), .lit (.int .u8 191)], .agg [.lit (.int .u8 160), .lit (.int .u8 191)], .agg [.lit (.int .u8 128), .lit (.int .u8 159)], .agg [.lit (.int .u8 144), .lit (.int .u8 191)], .agg [.lit (.int .u8 128), .lit (.int .u8 143)], .agg [.lit (.int .u8 0), .lit (.int .u8 0)], .agg [.lit (.int .u8 0), .lit (.int .u8 0)], .agg [.lit (.int .u8 0), .lit (.int .u8 0)], .agg [.lit (.int .u8 0), .lit (.int .u8 0)], .agg [.lit (.int .u8 0), .lit (.int .u8 0)], .agg [.lit (.int .u8 0), .lit (.int .u8 0)], .agg [.lit (.int .u8 0), .lit (.int .u8 0)], .agg [.lit (.int .u8 0), .lit (.int .u8 0)], .agg [.lit (.int .u8 0), .lit (.int .u8 0)], .agg [.lit (.int .u8 0), .lit (.int .u8 0)], .agg [.lit (.int .u8 0), .lit (.int .u8 0)]]
/-- One of Go's own tables, pinned by name: the form's constant. -/
def laid_unicode_utf8_first : DataW Unit := Go.Pinned.utf8First

/-- 'stockyardlaw02.PathValids': WHATEVER THE INPUT: true; the input reads as it did. -/
def pathValidsSpec : ChangeSpec := { name := "pathValids", fn := fun _ => fun
  | [d] => { results := [.lit (.bool true)], args := [d] }
  | _ => none }
def pathValidsRow : OpenClaim := { program := "ytpiecifdjfleaaadoor", sum := "c349c8d4e08efadde45dfd324bf7e02fdb33f0ea458dc18820a1ced8aa59f830", func := "stockyard/stockyardlaw02.PathValids", spec := "pathValids", inPlace := ["internal/bytealg.CountString", "internal/bytealg.IndexByteString", "internal/bytealg.IndexString"], named := ["unicode/utf8.first", "unicode/utf8.acceptRanges", "internal/bytealg.MaxLen"], apart := false, laid := [("unicode/utf8.acceptRanges", laid_unicode_utf8_acceptRanges), ("unicode/utf8.first", laid_unicode_utf8_first)] }
def PathValidsSaid : Prop := pathValidsRow.holds Tryd.pinned (OpenSpec.ofChange pathValidsSpec)

/-- ITS FALSE NEIGHBOUR: 'it returns false'. Refute it at one input. -/
def pathValidsWrong : ChangeSpec := { name := "pathValids", fn := fun _ => fun
  | [d] => { results := [.lit (.bool false)], args := [d] }
  | _ => none }
def PathValidsWrongFalsely : Prop := pathValidsRow.holds Tryd.pinned (OpenSpec.ofChange pathValidsWrong)

/-- 'stockyardlaw02.PathCompares': WHATEVER THE INPUT: true; the input reads as it did. -/
def pathComparesSpec : ChangeSpec := { name := "pathCompares", fn := fun _ => fun
  | [d1, d2] => { results := [.lit (.bool true)], args := [d1, d2] }
  | _ => none }
def pathComparesRow : OpenClaim := { program := "ytpiecifdjfleaaadoor", sum := "c349c8d4e08efadde45dfd324bf7e02fdb33f0ea458dc18820a1ced8aa59f830", func := "stockyard/stockyardlaw02.PathCompares", spec := "pathCompares", inPlace := ["internal/bytealg.CountString", "internal/bytealg.IndexByteString", "internal/bytealg.IndexString", "internal/bytealg.abigen_runtime_cmpstring"], named := ["unicode/utf8.first", "unicode/utf8.acceptRanges", "internal/bytealg.MaxLen"], apart := false, laid := [("unicode/utf8.acceptRanges", laid_unicode_utf8_acceptRanges), ("unicode/utf8.first", laid_unicode_utf8_first)] }
def PathComparesSaid : Prop := pathComparesRow.holds Tryd.pinned (OpenSpec.ofChange pathComparesSpec)

/-- ITS FALSE NEIGHBOUR: 'it returns false'. Refute it at one input. -/
def pathComparesWrong : ChangeSpec := { name := "pathCompares", fn := fun _ => fun
  | [d1, d2] => { results := [.lit (.bool false)], args := [d1, d2] }
  | _ => none }
def PathComparesWrongFalsely : Prop := pathComparesRow.holds Tryd.pinned (OpenSpec.ofChange pathComparesWrong)

/-- 'stockyardlaw02.PathSplits': WHATEVER THE INPUT: true; the input reads as it did. -/
def pathSplitsSpec : ChangeSpec := { name := "pathSplits", fn := fun _ => fun
  | [d] => { results := [.lit (.bool true)], args := [d] }
  | _ => none }
def pathSplitsRow : OpenClaim := { program := "ytpiecifdjfleaaadoor", sum := "c349c8d4e08efadde45dfd324bf7e02fdb33f0ea458dc18820a1ced8aa59f830", func := "stockyard/stockyardlaw02.PathSplits", spec := "pathSplits", inPlace := ["internal/bytealg.CountString", "internal/bytealg.IndexByteString", "internal/bytealg.IndexString"], named := ["unicode/utf8.first", "unicode/utf8.acceptRanges", "internal/bytealg.MaxLen"], apart := false, laid := [("unicode/utf8.acceptRanges", laid_unicode_utf8_acceptRanges), ("unicode/utf8.first", laid_unicode_utf8_first)] }
def PathSplitsSaid : Prop := pathSplitsRow.holds Tryd.pinned (OpenSpec.ofChange pathSplitsSpec)

/-- ITS FALSE NEIGHBOUR: 'it returns false'. Refute it at one input. -/
def pathSplitsWrong : ChangeSpec := { name := "pathSplits", fn := fun _ => fun
  | [d] => { results := [.lit (.bool false)], args := [d] }
  | _ => none }
def PathSplitsWrongFalsely : Prop := pathSplitsRow.holds Tryd.pinned (OpenSpec.ofChange pathSplitsWrong)

/-- 'stockyardlaw02.PathNeighbours': WHATEVER THE INPUT: true; the input reads as it did. -/
def pathNeighboursSpec : ChangeSpec := { name := "pathNeighbours", fn := fun _ => fun
  | [d1, d2, d3, d4] => { results := [.lit (.bool true)], args := [d1, d2, d3, d4] }
  | _ => none }
def pathNeighboursRow : OpenClaim := { program := "ytpiecifdjfleaaadoor", sum := "c349c8d4e08efadde45dfd324bf7e02fdb33f0ea458dc18820a1ced8aa59f830", func := "stockyard/stockyardlaw02.PathNeighbours", spec := "pathNeighbours", inPlace := ["internal/bytealg.CountString", "internal/bytealg.IndexByteString", "internal/bytealg.IndexString"], named := ["unicode/utf8.first", "unicode/utf8.acceptRanges", "internal/bytealg.MaxLen"], apart := false, laid := [("unicode/utf8.acceptRanges", laid_unicode_utf8_acceptRanges), ("unicode/utf8.first", laid_unicode_utf8_first)] }
def PathNeighboursSaid : Prop := pathNeighboursRow.holds Tryd.pinned (OpenSpec.ofChange pathNeighboursSpec)

/-- ITS FALSE NEIGHBOUR: 'it returns false'. Refute it at one input. -/
def pathNeighboursWrong : ChangeSpec := { name := "pathNeighbours", fn := fun _ => fun
  | [d1, d2, d3, d4] => { results := [.lit (.bool false)], args := [d1, d2, d3, d4] }
  | _ => none }
def PathNeighboursWrongFalsely : Prop := pathNeighboursRow.holds Tryd.pinned (OpenSpec.ofChange pathNeighboursWrong)

/-- 'stockyardlaw02.PathUnders': WHATEVER THE INPUT: true; the input reads as it did. -/
def pathUndersSpec : ChangeSpec := { name := "pathUnders", fn := fun _ => fun
  | [d1, d2] => { results := [.lit (.bool true)], args := [d1, d2] }
  | _ => none }
def pathUndersRow : OpenClaim := { program := "ytpiecifdjfleaaadoor", sum := "c349c8d4e08efadde45dfd324bf7e02fdb33f0ea458dc18820a1ced8aa59f830", func := "stockyard/stockyardlaw02.PathUnders", spec := "pathUnders", inPlace := ["internal/bytealg.CountString", "internal/bytealg.IndexByteString", "internal/bytealg.IndexString", "internal/bytealg.abigen_runtime_cmpstring"], named := ["unicode/utf8.first", "unicode/utf8.acceptRanges", "internal/bytealg.MaxLen"], apart := false, laid := [("unicode/utf8.acceptRanges", laid_unicode_utf8_acceptRanges), ("unicode/utf8.first", laid_unicode_utf8_first)] }
def PathUndersSaid : Prop := pathUndersRow.holds Tryd.pinned (OpenSpec.ofChange pathUndersSpec)

/-- ITS FALSE NEIGHBOUR: 'it returns false'. Refute it at one input. -/
def pathUndersWrong : ChangeSpec := { name := "pathUnders", fn := fun _ => fun
  | [d1, d2] => { results := [.lit (.bool false)], args := [d1, d2] }
  | _ => none }
def PathUndersWrongFalsely : Prop := pathUndersRow.holds Tryd.pinned (OpenSpec.ofChange pathUndersWrong)

/-- 'stockyardlaw02.PathPieces': WHATEVER THE INPUT: true; the input reads as it did. -/
def pathPiecesSpec : ChangeSpec := { name := "pathPieces", fn := fun _ => fun
  | [d] => { results := [.lit (.bool true)], args := [d] }
  | _ => none }
def pathPiecesRow : OpenClaim := { program := "ytpiecifdjfleaaadoor", sum := "c349c8d4e08efadde45dfd324bf7e02fdb33f0ea458dc18820a1ced8aa59f830", func := "stockyard/stockyardlaw02.PathPieces", spec := "pathPieces", inPlace := ["internal/bytealg.CountString", "internal/bytealg.IndexByteString", "internal/bytealg.IndexString", "internal/abi.NoEscape", "internal/bytealg.MakeNoZero"], named := ["unicode/utf8.first", "unicode/utf8.acceptRanges", "internal/bytealg.MaxLen"], apart := false, laid := [("unicode/utf8.acceptRanges", laid_unicode_utf8_acceptRanges), ("unicode/utf8.first", laid_unicode_utf8_first)] }
def PathPiecesSaid : Prop := pathPiecesRow.holds Tryd.pinned (OpenSpec.ofChange pathPiecesSpec)

/-- ITS FALSE NEIGHBOUR: 'it returns false'. Refute it at one input. -/
def pathPiecesWrong : ChangeSpec := { name := "pathPieces", fn := fun _ => fun
  | [d] => { results := [.lit (.bool false)], args := [d] }
  | _ => none }
def PathPiecesWrongFalsely : Prop := pathPiecesRow.holds Tryd.pinned (OpenSpec.ofChange pathPiecesWrong)

/-- 'stockyardlaw02.PathBack': WHATEVER THE INPUT: true; the input reads as it did. -/
def pathBackSpec : ChangeSpec := { name := "pathBack", fn := fun _ => fun
  | [d] => { results := [.lit (.bool true)], args := [d] }
  | _ => none }
def pathBackRow : OpenClaim := { program := "ytpiecifdjfleaaadoor", sum := "c349c8d4e08efadde45dfd324bf7e02fdb33f0ea458dc18820a1ced8aa59f830", func := "stockyard/stockyardlaw02.PathBack", spec := "pathBack", inPlace := ["internal/bytealg.CountString", "internal/bytealg.IndexByteString", "internal/bytealg.IndexString", "internal/abi.NoEscape", "internal/bytealg.MakeNoZero"], named := ["unicode/utf8.first", "unicode/utf8.acceptRanges", "internal/bytealg.MaxLen"], apart := false, laid := [("unicode/utf8.acceptRanges", laid_unicode_utf8_acceptRanges), ("unicode/utf8.first", laid_unicode_utf8_first)] }
def PathBackSaid : Prop := pathBackRow.holds Tryd.pinned (OpenSpec.ofChange pathBackSpec)

/-- ITS FALSE NEIGHBOUR: 'it returns false'. Refute it at one input. -/
def pathBackWrong : ChangeSpec := { name := "pathBack", fn := fun _ => fun
  | [d] => { results := [.lit (.bool false)], args := [d] }
  | _ => none }
def PathBackWrongFalsely : Prop := pathBackRow.holds Tryd.pinned (OpenSpec.ofChange pathBackWrong)

/- THE SECOND FORM. 'bulk': how many values and letters a reading holds, each counted each time it is reached (what is shared counts as often as it is met; a slice's spare places count too). A statement '..UptoSaid' is the law's where the arguments, and the package variables that the reading takes, are together of bulk at most 1048576: NARROWER than '..Said'. Prove '..Said' where nothing that the law and all that it calls make is longer than what came in: it says more and counts as full. Else prove '..UptoSaid'. A law counts once. -/
mutual
def uptoBulk {H : Type} : DataW H → Nat
  | .lit (.string bytes) => bytes.length + 1
  | .lit _ => 1
  | .nil => 1
  | .ptr d => uptoBulk d + 1
  | .slice elems spare => uptoBulkAll elems + uptoBulkAll spare + 1
  | .agg parts => uptoBulkAll parts + 1
  | .iface _ d => uptoBulk d + 1
  | .map entries => uptoBulkEntries entries + 1
  | .held _ => 1
def uptoBulkAll {H : Type} : List (DataW H) → Nat
  | [] => 0
  | d :: r => uptoBulk d + uptoBulkAll r
def uptoBulkEntries {H : Type} : List (Lit × DataW H) → Nat
  | [] => 0
  | x :: r => uptoBulkEntry x + uptoBulkEntries r
def uptoBulkEntry {H : Type} : Lit × DataW H → Nat
  | (.string bytes, d) => bytes.length + uptoBulk d + 1
  | (_, d) => uptoBulk d + 1
 end
def uptoSmall : (H : Type) → List (DataW H) → Bool := fun _ ds => decide (uptoBulkAll ds ≤ 1048576)
def OpenSpec.upto (s : _root_.Go.ChangeSpec) : _root_.Go.OpenSpec := { _root_.Go.OpenSpec.ofChange s with cond := some uptoSmall }

/-- 'stockyardlaw02.PathValids', WHERE WHAT IT READS IS OF BULK AT MOST 1048576: true; the input reads as it did. -/
def pathValidsUptoRow : OpenClaim := { program := "ytpiecifdjfleaaadoor", sum := "c349c8d4e08efadde45dfd324bf7e02fdb33f0ea458dc18820a1ced8aa59f830", func := "stockyard/stockyardlaw02.PathValids", spec := "pathValids", inPlace := ["internal/bytealg.CountString", "internal/bytealg.IndexByteString", "internal/bytealg.IndexString"], named := ["unicode/utf8.first", "unicode/utf8.acceptRanges", "internal/bytealg.MaxLen"], apart := false, laid := [("unicode/utf8.acceptRanges", laid_unicode_utf8_acceptRanges), ("unicode/utf8.first", laid_unicode_utf8_first)], narrowed := true }
def PathValidsUptoSaid : Prop := pathValidsUptoRow.holds Tryd.pinned (OpenSpec.upto pathValidsSpec)

/-- 'stockyardlaw02.PathCompares', WHERE WHAT IT READS IS OF BULK AT MOST 1048576: true; the input reads as it did. -/
def pathComparesUptoRow : OpenClaim := { program := "ytpiecifdjfleaaadoor", sum := "c349c8d4e08efadde45dfd324bf7e02fdb33f0ea458dc18820a1ced8aa59f830", func := "stockyard/stockyardlaw02.PathCompares", spec := "pathCompares", inPlace := ["internal/bytealg.CountString", "internal/bytealg.IndexByteString", "internal/bytealg.IndexString", "internal/bytealg.abigen_runtime_cmpstring"], named := ["unicode/utf8.first", "unicode/utf8.acceptRanges", "internal/bytealg.MaxLen"], apart := false, laid := [("unicode/utf8.acceptRanges", laid_unicode_utf8_acceptRanges), ("unicode/utf8.first", laid_unicode_utf8_first)], narrowed := true }
def PathComparesUptoSaid : Prop := pathComparesUptoRow.holds Tryd.pinned (OpenSpec.upto pathComparesSpec)

/-- 'stockyardlaw02.PathSplits', WHERE WHAT IT READS IS OF BULK AT MOST 1048576: true; the input reads as it did. -/
def pathSplitsUptoRow : OpenClaim := { program := "ytpiecifdjfleaaadoor", sum := "c349c8d4e08efadde45dfd324bf7e02fdb33f0ea458dc18820a1ced8aa59f830", func := "stockyard/stockyardlaw02.PathSplits", spec := "pathSplits", inPlace := ["internal/bytealg.CountString", "internal/bytealg.IndexByteString", "internal/bytealg.IndexString"], named := ["unicode/utf8.first", "unicode/utf8.acceptRanges", "internal/bytealg.MaxLen"], apart := false, laid := [("unicode/utf8.acceptRanges", laid_unicode_utf8_acceptRanges), ("unicode/utf8.first", laid_unicode_utf8_first)], narrowed := true }
def PathSplitsUptoSaid : Prop := pathSplitsUptoRow.holds Tryd.pinned (OpenSpec.upto pathSplitsSpec)

/-- 'stockyardlaw02.PathNeighbours', WHERE WHAT IT READS IS OF BULK AT MOST 1048576: true; the input reads as it did. -/
def pathNeighboursUptoRow : OpenClaim := { program := "ytpiecifdjfleaaadoor", sum := "c349c8d4e08efadde45dfd324bf7e02fdb33f0ea458dc18820a1ced8aa59f830", func := "stockyard/stockyardlaw02.PathNeighbours", spec := "pathNeighbours", inPlace := ["internal/bytealg.CountString", "internal/bytealg.IndexByteString", "internal/bytealg.IndexString"], named := ["unicode/utf8.first", "unicode/utf8.acceptRanges", "internal/bytealg.MaxLen"], apart := false, laid := [("unicode/utf8.acceptRanges", laid_unicode_utf8_acceptRanges), ("unicode/utf8.first", laid_unicode_utf8_first)], narrowed := true }
def PathNeighboursUptoSaid : Prop := pathNeighboursUptoRow.holds Tryd.pinned (OpenSpec.upto pathNeighboursSpec)

/-- 'stockyardlaw02.PathUnders', WHERE WHAT IT READS IS OF BULK AT MOST 1048576: true; the input reads as it did. -/
def pathUndersUptoRow : OpenClaim := { program := "ytpiecifdjfleaaadoor", sum := "c349c8d4e08efadde45dfd324bf7e02fdb33f0ea458dc18820a1ced8aa59f830", func := "stockyard/stockyardlaw02.PathUnders", spec := "pathUnders", inPlace := ["internal/bytealg.CountString", "internal/bytealg.IndexByteString", "internal/bytealg.IndexString", "internal/bytealg.abigen_runtime_cmpstring"], named := ["unicode/utf8.first", "unicode/utf8.acceptRanges", "internal/bytealg.MaxLen"], apart := false, laid := [("unicode/utf8.acceptRanges", laid_unicode_utf8_acceptRanges), ("unicode/utf8.first", laid_unicode_utf8_first)], narrowed := true }
def PathUndersUptoSaid : Prop := pathUndersUptoRow.holds Tryd.pinned (OpenSpec.upto pathUndersSpec)

/-- 'stockyardlaw02.PathPieces', WHERE WHAT IT READS IS OF BULK AT MOST 1048576: true; the input reads as it did. -/
def pathPiecesUptoRow : OpenClaim := { program := "ytpiecifdjfleaaadoor", sum := "c349c8d4e08efadde45dfd324bf7e02fdb33f0ea458dc18820a1ced8aa59f830", func := "stockyard/stockyardlaw02.PathPieces", spec := "pathPieces", inPlace := ["internal/bytealg.CountString", "internal/bytealg.IndexByteString", "internal/bytealg.IndexString", "internal/abi.NoEscape", "internal/bytealg.MakeNoZero"], named := ["unicode/utf8.first", "unicode/utf8.acceptRanges", "internal/bytealg.MaxLen"], apart := false, laid := [("unicode/utf8.acceptRanges", laid_unicode_utf8_acceptRanges), ("unicode/utf8.first", laid_unicode_utf8_first)], narrowed := true }
def PathPiecesUptoSaid : Prop := pathPiecesUptoRow.holds Tryd.pinned (OpenSpec.upto pathPiecesSpec)

/-- 'stockyardlaw02.PathBack', WHERE WHAT IT READS IS OF BULK AT MOST 1048576: true; the input reads as it did. -/
def pathBackUptoRow : OpenClaim := { program := "ytpiecifdjfleaaadoor", sum := "c349c8d4e08efadde45dfd324bf7e02fdb33f0ea458dc18820a1ced8aa59f830", func := "stockyard/stockyardlaw02.PathBack", spec := "pathBack", inPlace := ["internal/bytealg.CountString", "internal/bytealg.IndexByteString", "internal/bytealg.IndexString", "internal/abi.NoEscape", "internal/bytealg.MakeNoZero"], named := ["unicode/utf8.first", "unicode/utf8.acceptRanges", "internal/bytealg.MaxLen"], apart := false, laid := [("unicode/utf8.acceptRanges", laid_unicode_utf8_acceptRanges), ("unicode/utf8.first", laid_unicode_utf8_first)], narrowed := true }
def PathBackUptoSaid : Prop := pathBackUptoRow.holds Tryd.pinned (OpenSpec.upto pathBackSpec)

end Rows
end Go.Proofs.YtpiecifdjfleaaaDoor
