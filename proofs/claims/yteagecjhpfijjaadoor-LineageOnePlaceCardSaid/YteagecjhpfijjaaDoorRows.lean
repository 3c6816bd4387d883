/-
  NARROWER THAN 'FOR EVERY INPUT', by the rows' own cells (each row's printed sentence says how): LineageIdentities: laid · LineageOrder: laid · LineageLines: laid · LineagePartition: laid · LineageGrows: laid · LineageWheres: laid · LineageRename: laid · LineageOnePlace: laid.
  DERIVED. THE GIVEN ROWS OF THIS SEAT. 8 by the template 'for every input the law returns true; each argument reads behind the call as it read before'; 0 by the template 'total and deterministic' (their statements: YteagecjhpfijjaaDoorTotals.lean).
  GIVEN WITH THE SEED: the statements are not yours to turn. If you find one false, say at which input.
  Laid BY PROGRAM, IN A SANDBOX (cutbox-rows.mjs): the forced cells as the released guide's own fill.sh prints them over the translation 5f6b5dbba22e3781… (all of the seat's roots in one cut). By AI agents, Wed Nov 11 2026. No macro, syntax, notation, axiom, sorry.
-/
import Derived.Test.YteagecjhpfijjaaDoorChecked
import GoSem.PinnedTables
import GoSem.Claim
import GoSem.ClaimJoined
import GoSem.ClaimMapViews
import Derived.JoinedTies
import Derived.KernelRfl
namespace Go.Proofs.YteagecjhpfijjaaDoor
/- THE CELL 'sum', in the pinned program and in every row, IS THE sha256 OF THE DUMP (.gsa) THAT YteagecjhpfijjaaDoorProg.lean LOADS. Nothing in Lean hashes anything: it is a label: what it is worth is what the hold of that sum in a sandbox is worth. -/
noncomputable def Tryd.pinned : Pinned := { name := "yteagecjhpfijjaadoor", sum := "5f6b5dbba22e37818fdb8173b74d5a93337a6c27adb7473af32ae9130e75886e", checked := Tryd.checked }
namespace Rows
def none {H : Type} : Left H := { results := [], args := [] }

/- WHAT THE LISTED PACKAGE-LEVEL VARIABLES READ AS WHEN THE CALL BEGINS. Each datum BY PROGRAM (the guide's laid-datum.mjs) off the statement by which the dump's own 'gosem.cut.vars' lays the variable. In a bare row this is a premise. The card (YteagecjhpfijjaaDoorCards.lean) ties it to the program's text. -/
def laid_unicode_utf8_acceptRanges {H : Type} : DataW H := .agg [.agg [.lit (.int .u8 128), .lit (.int .u8 191)], .agg [.lit (.int .u8 160), .lit (.int .u8 191)], .agg [.lit (.int .u8 128), .lit (.int .u8 159)], .agg [.lit (.int .u8 144), .lit (.int .u8 191)], .agg [.lit (.int .u8 128), .lit (.int .u8 143)], .agg [.lit (.int .u8 0), .lit (.int .u8 0)], .agg [.lit (.int .u8 0), .lit (.int .u8 0)], .agg [.lit (.int .u8 0), .lit (.int .u8 0)], .agg [.lit (.int .u8 0), .lit (.int .u8 0)], .agg [.lit (.int .u8 0), .lit (.int .u8 0)], .agg [.lit (.int .u8 0), .lit (.int .u8 0)], .agg [.lit (.int .u8 0), .lit (.int .u8 0)], .agg [.lit (.int .u8 0), .lit (.int .u8 0)], .agg [.lit (.int .u8 0), .lit (.int .u8 0)], .agg [.lit (.int .u8 0), .lit (.int .u8 0)], .agg [.lit (.int .u8 0), .lit (.int .u8 0)]]
/-- One of Go's own tables, pinned by name: the form's constant. -/
def laid_unicode_utf8_first : DataW Unit := Go.Pinned.utf8First

/-- 'stockyardlaw13.LineageIdentities': WHATEVER THE INPUT: true; the input reads as it did. -/
def lineageIdentitiesSpec : ChangeSpec := { name := "lineageIdentities", fn := fun _ => fun
  | [d1, d2, d3] => { results := [.lit (.bool true)], args := [d1, d2, d3] }
  | _ => none }
def lineageIdentitiesRow : OpenClaim := { program := "yteagecjhpfijjaadoor", sum := "5f6b5dbba22e37818fdb8173b74d5a93337a6c27adb7473af32ae9130e75886e", func := "stockyard/stockyardlaw13.LineageIdentities", spec := "lineageIdentities", inPlace := ["internal/bytealg.CountString", "internal/bytealg.IndexByteString", "internal/bytealg.IndexString", "internal/bytealg.abigen_runtime_cmpstring"], unfollowed := true, recurses := true, named := ["unicode/utf8.first", "unicode/utf8.acceptRanges", "internal/bytealg.MaxLen"], plainKeys := false, apart := false, laid := [("unicode/utf8.acceptRanges", laid_unicode_utf8_acceptRanges), ("unicode/utf8.first", laid_unicode_utf8_first)] }
def LineageIdentitiesSaid : Prop := lineageIdentitiesRow.holds Tryd.pinned (OpenSpec.ofChange lineageIdentitiesSpec)

/-- ITS FALSE NEIGHBOUR: 'it returns false'. Refute it at one input. -/
def lineageIdentitiesWrong : ChangeSpec := { name := "lineageIdentities", fn := fun _ => fun
  | [d1, d2, d3] => { results := [.lit (.bool false)], args := [d1, d2, d3] }
  | _ => none }
def LineageIdentitiesWrongFalsely : Prop := lineageIdentitiesRow.holds Tryd.pinned (OpenSpec.ofChange lineageIdentitiesWrong)

/-- 'stockyardlaw13.LineageOrder': WHATEVER THE INPUT: true; the input reads as it did. -/
def lineageOrderSpec : ChangeSpec := { name := "lineageOrder", fn := fun _ => fun
  | [d1, d2] => { results := [.lit (.bool true)], args := [d1, d2] }
  | _ => none }
def lineageOrderRow : OpenClaim := { program := "yteagecjhpfijjaadoor", sum := "5f6b5dbba22e37818fdb8173b74d5a93337a6c27adb7473af32ae9130e75886e", func := "stockyard/stockyardlaw13.LineageOrder", spec := "lineageOrder", inPlace := ["internal/bytealg.CountString", "internal/bytealg.IndexByteString", "internal/bytealg.IndexString", "internal/bytealg.abigen_runtime_cmpstring"], unfollowed := true, recurses := true, named := ["unicode/utf8.first", "unicode/utf8.acceptRanges", "internal/bytealg.MaxLen"], plainKeys := false, apart := false, laid := [("unicode/utf8.acceptRanges", laid_unicode_utf8_acceptRanges), ("unicode/utf8.first", laid_unicode_utf8_first)] }
def LineageOrderSaid : Prop := lineageOrderRow.holds Tryd.pinned (OpenSpec.ofChange lineageOrderSpec)

/-- ITS FALSE NEIGHBOUR: 'it returns false'. Refute it at one input. -/
def lineageOrderWrong : ChangeSpec := { name := "lineageOrder", fn := fun _ => fun
  | [d1, d2] => { results := [.lit (.bool false)], args := [d1, d2] }
  | _ => none }
def LineageOrderWrongFalsely : Prop := lineageOrderRow.holds Tryd.pinned (OpenSpec.ofChange lineageOrderWrong)

/-- 'stockyardlaw13.LineageLines': WHATEVER THE INPUT: true; the input reads as it did. -/
def lineageLinesSpec : ChangeSpec := { name := "lineageLines", fn := fun _ => fun
  | [d1, d2] => { results := [.lit (.bool true)], args := [d1, d2] }
  | _ => none }
def lineageLinesRow : OpenClaim := { program := "yteagecjhpfijjaadoor", sum := "5f6b5dbba22e37818fdb8173b74d5a93337a6c27adb7473af32ae9130e75886e", func := "stockyard/stockyardlaw13.LineageLines", spec := "lineageLines", inPlace := ["internal/bytealg.CountString", "internal/bytealg.IndexByteString", "internal/bytealg.IndexString", "internal/bytealg.abigen_runtime_cmpstring"], unfollowed := true, recurses := true, named := ["unicode/utf8.first", "unicode/utf8.acceptRanges", "internal/bytealg.MaxLen"], plainKeys := false, apart := false, laid := [("unicode/utf8.acceptRanges", laid_unicode_utf8_acceptRanges), ("unicode/utf8.first", laid_unicode_utf8_first)] }
def LineageLinesSaid : Prop := lineageLinesRow.holds Tryd.pinned (OpenSpec.ofChange lineageLinesSpec)

/-- ITS FALSE NEIGHBOUR: 'it returns false'. Refute it at one input. -/
def lineageLinesWrong : ChangeSpec := { name := "lineageLines", fn := fun _ => fun
  | [d1, d2] => { results := [.lit (.bool false)], args := [d1, d2] }
  | _ => none }
def LineageLinesWrongFalsely : Prop := lineageLinesRow.holds Tryd.pinned (OpenSpec.ofChange lineageLinesWrong)

/-- 'stockyardlaw13.LineagePartition': WHATEVER THE INPUT: true; the input reads as it did. -/
def lineagePartitionSpec : ChangeSpec := { name := "lineagePartition", fn := fun _ => fun
  | [d] => { results := [.lit (.bool true)], args := [d] }
  | _ => none }
def lineagePartitionRow : OpenClaim := { program := "yteagecjhpfijjaadoor", sum := "5f6b5dbba22e37818fdb8173b74d5a93337a6c27adb7473af32ae9130e75886e", func := "stockyard/stockyardlaw13.LineagePartition", spec := "lineagePartition", inPlace := ["internal/bytealg.CountString", "internal/bytealg.IndexByteString", "internal/bytealg.IndexString", "internal/bytealg.abigen_runtime_cmpstring"], unfollowed := true, recurses := true, named := ["unicode/utf8.first", "unicode/utf8.acceptRanges", "internal/bytealg.MaxLen"], plainKeys := false, apart := false, laid := [("unicode/utf8.acceptRanges", laid_unicode_utf8_acceptRanges), ("unicode/utf8.first", laid_unicode_utf8_first)] }
def LineagePartitionSaid : Prop := lineagePartitionRow.holds Tryd.pinned (OpenSpec.ofChange lineagePartitionSpec)

/-- ITS FALSE NEIGHBOUR: 'it returns false'. Refute it at one input. -/
def lineagePartitionWrong : ChangeSpec := { name := "lineagePartition", fn := fun _ => fun
  | [d] => { results := [.lit (.bool false)], args := [d] }
  | _ => none }
def LineagePartitionWrongFalsely : Prop := lineagePartitionRow.holds Tryd.pinned (OpenSpec.ofChange lineagePartitionWrong)

/-- 'stockyardlaw13.LineageGrows': WHATEVER THE INPUT: true; the input reads as it did. -/
def lineageGrowsSpec : ChangeSpec := { name := "lineageGrows", fn := fun _ => fun
  | [d1, d2] => { results := [.lit (.bool true)], args := [d1, d2] }
  | _ => none }
def lineageGrowsRow : OpenClaim := { program := "yteagecjhpfijjaadoor", sum := "5f6b5dbba22e37818fdb8173b74d5a93337a6c27adb7473af32ae9130e75886e", func := "stockyard/stockyardlaw13.LineageGrows", spec := "lineageGrows", inPlace := ["internal/bytealg.CountString", "internal/bytealg.IndexByteString", "internal/bytealg.IndexString", "internal/bytealg.abigen_runtime_cmpstring"], unfollowed := true, recurses := true, named := ["unicode/utf8.first", "unicode/utf8.acceptRanges", "internal/bytealg.MaxLen"], plainKeys := false, apart := false, laid := [("unicode/utf8.acceptRanges", laid_unicode_utf8_acceptRanges), ("unicode/utf8.first", laid_unicode_utf8_first)] }
def LineageGrowsSaid : Prop := lineageGrowsRow.holds Tryd.pinned (OpenSpec.ofChange lineageGrowsSpec)

/-- ITS FALSE NEIGHBOUR: 'it returns false'. Refute it at one input. -/
def lineageGrowsWrong : ChangeSpec := { name := "lineageGrows", fn := fun _ => fun
  | [d1, d2] => { results := [.lit (.bool false)], args := [d1, d2] }
  | _ => none }
def LineageGrowsWrongFalsely : Prop := lineageGrowsRow.holds Tryd.pinned (OpenSpec.ofChange lineageGrowsWrong)

/-- 'stockyardlaw13.LineageWheres': WHATEVER THE INPUT: true; the input reads as it did. -/
def lineageWheresSpec : ChangeSpec := { name := "lineageWheres", fn := fun _ => fun
  | [d1, d2, d3] => { results := [.lit (.bool true)], args := [d1, d2, d3] }
  | _ => none }
def lineageWheresRow : OpenClaim := { program := "yteagecjhpfijjaadoor", sum := "5f6b5dbba22e37818fdb8173b74d5a93337a6c27adb7473af32ae9130e75886e", func := "stockyard/stockyardlaw13.LineageWheres", spec := "lineageWheres", inPlace := ["internal/bytealg.CountString", "internal/bytealg.IndexByteString", "internal/bytealg.IndexString", "internal/bytealg.abigen_runtime_cmpstring"], unfollowed := true, recurses := true, named := ["unicode/utf8.first", "unicode/utf8.acceptRanges", "internal/bytealg.MaxLen"], plainKeys := false, apart := false, laid := [("unicode/utf8.acceptRanges", laid_unicode_utf8_acceptRanges), ("unicode/utf8.first", laid_unicode_utf8_first)] }
def LineageWheresSaid : Prop := lineageWheresRow.holds Tryd.pinned (OpenSpec.ofChange lineageWheresSpec)

/-- ITS FALSE NEIGHBOUR: 'it returns false'. Refute it at one input. -/
def lineageWheresWrong : ChangeSpec := { name := "lineageWheres", fn := fun _ => fun
  | [d1, d2, d3] => { results := [.lit (.bool false)], args := [d1, d2, d3] }
  | _ => none }
def LineageWheresWrongFalsely : Prop := lineageWheresRow.holds Tryd.pinned (OpenSpec.ofChange lineageWheresWrong)

/-- 'stockyardlaw13.LineageRename': WHATEVER THE INPUT: true; the input reads as it did. -/
def lineageRenameSpec : ChangeSpec := { name := "lineageRename", fn := fun _ => fun
  | [d1, d2, d3, d4] => { results := [.lit (.bool true)], args := [d1, d2, d3, d4] }
  | _ => none }
def lineageRenameRow : OpenClaim := { program := "yteagecjhpfijjaadoor", sum := "5f6b5dbba22e37818fdb8173b74d5a93337a6c27adb7473af32ae9130e75886e", func := "stockyard/stockyardlaw13.LineageRename", spec := "lineageRename", inPlace := ["internal/bytealg.CountString", "internal/bytealg.IndexByteString", "internal/bytealg.IndexString", "internal/bytealg.abigen_runtime_cmpstring"], unfollowed := true, recurses := true, named := ["unicode/utf8.first", "unicode/utf8.acceptRanges", "internal/bytealg.MaxLen"], plainKeys := false, apart := false, laid := [("unicode/utf8.acceptRanges", laid_unicode_utf8_acceptRanges), ("unicode/utf8.first", laid_unicode_utf8_first)] }
def LineageRenameSaid : Prop := lineageRenameRow.holds Tryd.pinned (OpenSpec.ofChange lineageRenameSpec)

/-- ITS FALSE NEIGHBOUR: 'it returns false'. Refute it at one input. -/
def lineageRenameWrong : ChangeSpec := { name := "lineageRename", fn := fun _ => fun
  | [d1, d2, d3, d4] => { results := [.lit (.bool false)], args := [d1, d2, d3, d4] }
  | _ => none }
def LineageRenameWrongFalsely : Prop := lineageRenameRow.holds Tryd.pinned (OpenSpec.ofChange lineageRenameWrong)

/-- 'stockyardlaw13.LineageOnePlace': WHATEVER THE INPUT: true; the input reads as it did. -/
def lineageOnePlaceSpec : ChangeSpec := { name := "lineageOnePlace", fn := fun _ => fun
  | [d1, d2] => { results := [.lit (.bool true)], args := [d1, d2] }
  | _ => none }
def lineageOnePlaceRow : OpenClaim := { program := "yteagecjhpfijjaadoor", sum := "5f6b5dbba22e37818fdb8173b74d5a93337a6c27adb7473af32ae9130e75886e", func := "stockyard/stockyardlaw13.LineageOnePlace", spec := "lineageOnePlace", inPlace := ["internal/bytealg.CountString", "internal/bytealg.IndexByteString", "internal/bytealg.IndexString", "internal/bytealg.abigen_runtime_cmpstring"], unfollowed := true, recurses := true, named := ["unicode/utf8.first", "unicode/utf8.acceptRanges", "internal/bytealg.MaxLen"], plainKeys := false, apart := false, laid := [("unicode/utf8.acceptRanges", laid_unicode_utf8_acceptRanges), ("unicode/utf8.first", laid_unicode_utf8_first)] }
def LineageOnePlaceSaid : Prop := lineageOnePlaceRow.holds Tryd.pinned (OpenSpec.ofChange lineageOnePlaceSpec)

/-- ITS FALSE NEIGHBOUR: 'it returns false'. Refute it at one input. -/
def lineageOnePlaceWrong : ChangeSpec := { name := "lineageOnePlace", fn := fun _ => fun
  | [d1, d2] => { results := [.lit (.bool false)], args := [d1, d2] }
  | _ => none }
def LineageOnePlaceWrongFalsely : Prop := lineageOnePlaceRow.holds Tryd.pinned (OpenSpec.ofChange lineageOnePlaceWrong)

/- THE SECOND FORM. 'bulk': how many values and letters a reading holds, each counted each time it is reached (what is shared counts as often as it is met; a slice's spare places count too). A statement '..UptoSaid' is the law's where the arguments, and the package variables that the reading takes, are together of bulk at most 1048576: NARROWER than '..Said'. Prove '..Said' where nothing that the law and all that it calls make is longer than what came in: it says more and counts as full. Else prove '..UptoSaid'. A law counts once. -/
mutual
def uptoBulk {H : Type} : DataW H → Nat
  | .lit (.string bytes) => bytes.length + 1
  | .lit _ => 1
  | .nil => 1
  | .ptr d => uptoBulk d + 1
  | .slice elems spare => uptoBulkAll elems + uptoBulkAll spare + 1
  | .agg parts => uptoBulkAll parts + 1
  | .iface _ d => uptoBulk d + 1
  | .map entries => uptoBulkEntries entries + 1
  | .held _ => 1
def uptoBulkAll {H : Type} : List (DataW H) → Nat
  | [] => 0
  | d :: r => uptoBulk d + uptoBulkAll r
def uptoBulkEntries {H : Type} : List (Lit × DataW H) → Nat
  | [] => 0
  | x :: r => uptoBulkEntry x + uptoBulkEntries r
def uptoBulkEntry {H : Type} : Lit × DataW H → Nat
  | (.string bytes, d) => bytes.length + uptoBulk d + 1
  | (_, d) => uptoBulk d + 1
 end
def uptoSmall : (H : Type) → List (DataW H) → Bool := fun _ ds => decide (uptoBulkAll ds ≤ 1048576)
def OpenSpec.upto (s : _root_.Go.ChangeSpec) : _root_.Go.OpenSpec := { _root_.Go.OpenSpec.ofChange s with cond := some uptoSmall }

/-- 'stockyardlaw13.LineageIdentities', WHERE WHAT IT READS IS OF BULK AT MOST 1048576: true; the input reads as it did. -/
def lineageIdentitiesUptoRow : OpenClaim := { program := "yteagecjhpfijjaadoor", sum := "5f6b5dbba22e37818fdb8173b74d5a93337a6c27adb7473af32ae9130e75886e", func := "stockyard/stockyardlaw13.LineageIdentities", spec := "lineageIdentities", inPlace := ["internal/bytealg.CountString", "internal/bytealg.IndexByteString", "internal/bytealg.IndexString", "internal/bytealg.abigen_runtime_cmpstring"], unfollowed := true, recurses := true, named := ["unicode/utf8.first", "unicode/utf8.acceptRanges", "internal/bytealg.MaxLen"], plainKeys := false, apart := false, laid := [("unicode/utf8.acceptRanges", laid_unicode_utf8_acceptRanges), ("unicode/utf8.first", laid_unicode_utf8_first)], narrowed := true }
def LineageIdentitiesUptoSaid : Prop := lineageIdentitiesUptoRow.holds Tryd.pinned (OpenSpec.upto lineageIdentitiesSpec)

/-- 'stockyardlaw13.LineageOrder', WHERE WHAT IT READS IS OF BULK AT MOST 1048576: true; the input reads as it did. -/
def lineageOrderUptoRow : OpenClaim := { program := "yteagecjhpfijjaadoor", sum := "5f6b5dbba22e37818fdb8173b74d5a93337a6c27adb7473af32ae9130e75886e", func := "stockyard/stockyardlaw13.LineageOrder", spec := "lineageOrder", inPlace := ["internal/bytealg.CountString", "internal/bytealg.IndexByteString", "internal/bytealg.IndexString", "internal/bytealg.abigen_runtime_cmpstring"], unfollowed := true, recurses := true, named := ["unicode/utf8.first", "unicode/utf8.acceptRanges", "internal/bytealg.MaxLen"], plainKeys := false, apart := false, laid := [("unicode/utf8.acceptRanges", laid_unicode_utf8_acceptRanges), ("unicode/utf8.first", laid_unicode_utf8_first)], narrowed := true }
def LineageOrderUptoSaid : Prop := lineageOrderUptoRow.holds Tryd.pinned (OpenSpec.upto lineageOrderSpec)

/-- 'stockyardlaw13.LineageLines', WHERE WHAT IT READS IS OF BULK AT MOST 1048576: true; the input reads as it did. -/
def lineageLinesUptoRow : OpenClaim := { program := "yteagecjhpfijjaadoor", sum := "5f6b5dbba22e37818fdb8173b74d5a93337a6c27adb7473af32ae9130e75886e", func := "stockyard/stockyardlaw13.LineageLines", spec := "lineageLines", inPlace := ["internal/bytealg.CountString", "internal/bytealg.IndexByteString", "internal/bytealg.IndexString", "internal/bytealg.abigen_runtime_cmpstring"], unfollowed := true, recurses := true, named := ["unicode/utf8.first", "unicode/utf8.acceptRanges", "internal/bytealg.MaxLen"], plainKeys := false, apart := false, laid := [("unicode/utf8.acceptRanges", laid_unicode_utf8_acceptRanges), ("unicode/utf8.first", laid_unicode_utf8_first)], narrowed := true }
def LineageLinesUptoSaid : Prop := lineageLinesUptoRow.holds Tryd.pinned (OpenSpec.upto lineageLinesSpec)

/-- 'stockyardlaw13.LineagePartition', WHERE WHAT IT READS IS OF BULK AT MOST 1048576: true; the input reads as it did. -/
def lineagePartitionUptoRow : OpenClaim := { program := "yteagecjhpfijjaadoor", sum := "5f6b5dbba22e37818fdb8173b74d5a93337a6c27adb7473af32ae9130e75886e", func := "stockyard/stockyardlaw13.LineagePartition", spec := "lineagePartition", inPlace := ["internal/bytealg.CountString", "internal/bytealg.IndexByteString", "internal/bytealg.IndexString", "internal/bytealg.abigen_runtime_cmpstring"], unfollowed := true, recurses := true, named := ["unicode/utf8.first", "unicode/utf8.acceptRanges", "internal/bytealg.MaxLen"], plainKeys := false, apart := false, laid := [("unicode/utf8.acceptRanges", laid_unicode_utf8_acceptRanges), ("unicode/utf8.first", laid_unicode_utf8_first)], narrowed := true }
def LineagePartitionUptoSaid : Prop := lineagePartitionUptoRow.holds Tryd.pinned (OpenSpec.upto lineagePartitionSpec)

/-- 'stockyardlaw13.LineageGrows', WHERE WHAT IT READS IS OF BULK AT MOST 1048576: true; the input reads as it did. -/
def lineageGrowsUptoRow : OpenClaim := { program := "yteagecjhpfijjaadoor", sum := "5f6b5dbba22e37818fdb8173b74d5a93337a6c27adb7473af32ae9130e75886e", func := "stockyard/stockyardlaw13.LineageGrows", spec := "lineageGrows", inPlace := ["internal/bytealg.CountString", "internal/bytealg.IndexByteString", "internal/bytealg.IndexString", "internal/bytealg.abigen_runtime_cmpstring"], unfollowed := true, recurses := true, named := ["unicode/utf8.first", "unicode/utf8.acceptRanges", "internal/bytealg.MaxLen"], plainKeys := false, apart := false, laid := [("unicode/utf8.acceptRanges", laid_unicode_utf8_acceptRanges), ("unicode/utf8.first", laid_unicode_utf8_first)], narrowed := true }
def LineageGrowsUptoSaid : Prop := lineageGrowsUptoRow.holds Tryd.pinned (OpenSpec.upto lineageGrowsSpec)

/-- 'stockyardlaw13.LineageWheres', WHERE WHAT IT READS IS OF BULK AT MOST 1048576: true; the input reads as it did. -/
def lineageWheresUptoRow : OpenClaim := { program := "yteagecjhpfijjaadoor", sum := "5f6b5dbba22e37818fdb8173b74d5a93337a6c27adb7473af32ae9130e75886e", func := "stockyard/stockyardlaw13.LineageWheres", spec := "lineageWheres", inPlace := ["internal/bytealg.CountString", "internal/bytealg.IndexByteString", "internal/bytealg.IndexString", "internal/bytealg.abigen_runtime_cmpstring"], unfollowed := true, recurses := true, named := ["unicode/utf8.first", "unicode/utf8.acceptRanges", "internal/bytealg.MaxLen"], plainKeys := false, apart := false, laid := [("unicode/utf8.acceptRanges", laid_unicode_utf8_acceptRanges), ("unicode/utf8.first", laid_unicode_utf8_first)], narrowed := true }
def LineageWheresUptoSaid : Prop := lineageWheresUptoRow.holds Tryd.pinned (OpenSpec.upto lineageWheresSpec)

/-- 'stockyardlaw13.LineageRename', WHERE WHAT IT READS IS OF BULK AT MOST 1048576: true; the input reads as it did. -/
def lineageRenameUptoRow : OpenClaim := { program := "yteagecjhpfijjaadoor", sum := "5f6b5dbba22e37818fdb8173b74d5a93337a6c27adb7473af32ae9130e75886e", func := "stockyard/stockyardlaw13.LineageRename", spec := "lineageRename", inPlace := ["internal/bytealg.CountString", "internal/bytealg.IndexByteString", "internal/bytealg.IndexString", "internal/bytealg.abigen_runtime_cmpstring"], unfollowed := true, recurses := true, named := ["unicode/utf8.first", "unicode/utf8.acceptRanges", "internal/bytealg.MaxLen"], plainKeys := false, apart := false, laid := [("unicode/utf8.acceptRanges", laid_unicode_utf8_acceptRanges), ("unicode/utf8.first", laid_unicode_utf8_first)], narrowed := true }
def LineageRenameUptoSaid : Prop := lineageRenameUptoRow.holds Tryd.pinned (OpenSpec.upto lineageRenameSpec)

/-- 'stockyardlaw13.LineageOnePlace', WHERE WHAT IT READS IS OF BULK AT MOST 1048576: true; the input reads as it did. -/
def lineageOnePlaceUptoRow : OpenClaim := { program := "yteagecjhpfijjaadoor", sum := "5f6b5dbba22e37818fdb8173b74d5a93337a6c27adb7473af32ae9130e75886e", func := "stockyard/stockyardlaw13.LineageOnePlace", spec := "lineageOnePlace", inPlace := ["internal/bytealg.CountString", "internal/bytealg.IndexByteString", "internal/bytealg.IndexString", "internal/bytealg.abigen_runtime_cmpstring"], unfollowed := true, recurses := true, named := ["unicode/utf8.first", "unicode/utf8.acceptRanges", "internal/bytealg.MaxLen"], plainKeys := false, apart := false, laid := [("unicode/utf8.acceptRanges", laid_unicode_utf8_acceptRanges), ("unicode/utf8.first", laid_unicode_utf8_first)], narrowed := true }
def LineageOnePlaceUptoSaid : Prop := lineageOnePlaceUptoRow.holds Tryd.pinned (OpenSpec.upto lineageOnePlaceSpec)

end Rows
end Go.Proofs.YteagecjhpfijjaaDoor
