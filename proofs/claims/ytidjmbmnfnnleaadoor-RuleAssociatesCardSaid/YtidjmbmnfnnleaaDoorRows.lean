/-
  NARROWER THAN 'FOR EVERY INPUT', by the rows' own cells (each row's printed sentence says how): RuleMaps: laid · RuleChecks: laid · RuleBack: laid · RuleNarrowsLeft: laid · RuleNarrowMeans: laid · RuleChainMeans: laid · RuleAssociates: laid · RuleNarrowsRight: laid · RuleChains: laid · RuleAgrees: laid · RuleAgreeMeans: laid.
  DERIVED. THE GIVEN ROWS OF THIS SEAT. 11 by the template 'for every input the law returns true; each argument reads behind the call as it read before'; 0 by the template 'total and deterministic' (their statements: YtidjmbmnfnnleaaDoorTotals.lean).
  GIVEN WITH THE SEED: the statements are not yours to turn. If you find one false, say at which input.
  Laid BY PROGRAM, IN A SANDBOX (cutbox-rows.mjs): the forced cells as the released guide's own fill.sh prints them over the translation 23a2a175e3e92d5b… (all of the seat's roots in one cut). By AI agents, Wed Nov 11 2026. No macro, syntax, notation, axiom, sorry.
-/
import Derived.Test.YtidjmbmnfnnleaaDoorChecked
import GoSem.PinnedTables
import GoSem.Claim
import GoSem.ClaimJoined
import GoSem.ClaimMapViews
import Derived.JoinedTies
import Derived.KernelRfl
namespace Go.Proofs.YtidjmbmnfnnleaaDoor
/- THE CELL 'sum', in the pinned program and in every row, IS THE sha256 OF THE DUMP (.gsa) THAT YtidjmbmnfnnleaaDoorProg.lean LOADS. Nothing in Lean hashes anything: it is a label: what it is worth is what the hold of that sum in a sandbox is worth. -/
noncomputable def Tryd.pinned : Pinned := { name := "ytidjmbmnfnnleaadoor", sum := "23a2a175e3e92d5bd168b1d556fdbf36c2d4f287dc00b334fc9fd6c44a626478", checked := Tryd.checked }
namespace Rows
def none {H : Type} : Left H := { results := [], args := [] }

/- WHAT THE LISTED PACKAGE-LEVEL VARIABLES READ AS WHEN THE CALL BEGINS. Each datum BY PROGRAM (the guide's laid-datum.mjs) off the statement by which the dump's own 'gosem.cut.vars' lays the variable. In a bare row this is a premise. The card (YtidjmbmnfnnleaaDoorCards.lean) ties it to the program's text. -/
def laid_unicode_utf8_acceptRanges {H : Type} : DataW H := .agg [.agg [.lit (.int .u8 128), .lit (.int .u8 191)], .agg [.lit (.int .u8 160), .lit (.int .u8 191)], .agg [.lit (.int .u8 128), .lit (.int .u8 159)], .agg [.lit (.int .u8 144), .lit (.int .u8 191)], .agg [.lit (.int .u8 128), .lit (.int .u8 143)], .agg [.lit (.int .u8 0), .lit (.int .u8 0)], .agg [.lit (.int .u8 0), .lit (.int .u8 0)], .agg [.lit (.int .u8 0), .lit (.int .u8 0)], .agg [.lit (.int .u8 0), .lit (.int .u8 0)], .agg [.lit (.int .u8 0), .lit (.int .u8 0)], .agg [.lit (.int .u8 0), .lit (.int .u8 0)], .agg [.lit (.int .u8 0), .lit (.int .u8 0)], .agg [.lit (.int .u8 0), .lit (.int .u8 0)], .agg [.lit (.int .u8 0), .lit (.int .u8 0)], .agg [.lit (.int .u8 0), .lit (.int .u8 0)], .agg [.lit (.int .u8 0), .lit (.int .u8 0)]]
/-- One of Go's own tables, pinned by name: the form's constant. -/
def laid_unicode_utf8_first : DataW Unit := Go.Pinned.utf8First

/-- 'stockyardlaw04.RuleMaps': WHATEVER THE INPUT: true; the input reads as it did. -/
def ruleMapsSpec : ChangeSpec := { name := "ruleMaps", fn := fun _ => fun
  | [d1, d2] => { results := [.lit (.bool true)], args := [d1, d2] }
  | _ => none }
def ruleMapsRow : OpenClaim := { program := "ytidjmbmnfnnleaadoor", sum := "23a2a175e3e92d5bd168b1d556fdbf36c2d4f287dc00b334fc9fd6c44a626478", func := "stockyard/stockyardlaw04.RuleMaps", spec := "ruleMaps", inPlace := ["internal/bytealg.CountString", "internal/bytealg.IndexByteString", "internal/bytealg.IndexString", "internal/abi.NoEscape", "internal/bytealg.MakeNoZero"], named := ["unicode/utf8.first", "unicode/utf8.acceptRanges", "internal/bytealg.MaxLen"], apart := false, laid := [("unicode/utf8.acceptRanges", laid_unicode_utf8_acceptRanges), ("unicode/utf8.first", laid_unicode_utf8_first)] }
def RuleMapsSaid : Prop := ruleMapsRow.holds Tryd.pinned (OpenSpec.ofChange ruleMapsSpec)

/-- ITS FALSE NEIGHBOUR: 'it returns false'. Refute it at one input. -/
def ruleMapsWrong : ChangeSpec := { name := "ruleMaps", fn := fun _ => fun
  | [d1, d2] => { results := [.lit (.bool false)], args := [d1, d2] }
  | _ => none }
def RuleMapsWrongFalsely : Prop := ruleMapsRow.holds Tryd.pinned (OpenSpec.ofChange ruleMapsWrong)

/-- 'stockyardlaw04.RuleChecks': WHATEVER THE INPUT: true; the input reads as it did. -/
def ruleChecksSpec : ChangeSpec := { name := "ruleChecks", fn := fun _ => fun
  | [d] => { results := [.lit (.bool true)], args := [d] }
  | _ => none }
def ruleChecksRow : OpenClaim := { program := "ytidjmbmnfnnleaadoor", sum := "23a2a175e3e92d5bd168b1d556fdbf36c2d4f287dc00b334fc9fd6c44a626478", func := "stockyard/stockyardlaw04.RuleChecks", spec := "ruleChecks", inPlace := ["internal/bytealg.CountString", "internal/bytealg.IndexByteString", "internal/bytealg.IndexString", "internal/abi.NoEscape", "internal/bytealg.MakeNoZero"], named := ["unicode/utf8.first", "unicode/utf8.acceptRanges", "internal/bytealg.MaxLen"], apart := false, laid := [("unicode/utf8.acceptRanges", laid_unicode_utf8_acceptRanges), ("unicode/utf8.first", laid_unicode_utf8_first)] }
def RuleChecksSaid : Prop := ruleChecksRow.holds Tryd.pinned (OpenSpec.ofChange ruleChecksSpec)

/-- ITS FALSE NEIGHBOUR: 'it returns false'. Refute it at one input. -/
def ruleChecksWrong : ChangeSpec := { name := "ruleChecks", fn := fun _ => fun
  | [d] => { results := [.lit (.bool false)], args := [d] }
  | _ => none }
def RuleChecksWrongFalsely : Prop := ruleChecksRow.holds Tryd.pinned (OpenSpec.ofChange ruleChecksWrong)

/-- 'stockyardlaw04.RuleBack': WHATEVER THE INPUT: true; the input reads as it did. -/
def ruleBackSpec : ChangeSpec := { name := "ruleBack", fn := fun _ => fun
  | [d1, d2] => { results := [.lit (.bool true)], args := [d1, d2] }
  | _ => none }
def ruleBackRow : OpenClaim := { program := "ytidjmbmnfnnleaadoor", sum := "23a2a175e3e92d5bd168b1d556fdbf36c2d4f287dc00b334fc9fd6c44a626478", func := "stockyard/stockyardlaw04.RuleBack", spec := "ruleBack", inPlace := ["internal/bytealg.CountString", "internal/bytealg.IndexByteString", "internal/bytealg.IndexString", "internal/abi.NoEscape", "internal/bytealg.MakeNoZero"], named := ["unicode/utf8.first", "unicode/utf8.acceptRanges", "internal/bytealg.MaxLen"], apart := false, laid := [("unicode/utf8.acceptRanges", laid_unicode_utf8_acceptRanges), ("unicode/utf8.first", laid_unicode_utf8_first)] }
def RuleBackSaid : Prop := ruleBackRow.holds Tryd.pinned (OpenSpec.ofChange ruleBackSpec)

/-- ITS FALSE NEIGHBOUR: 'it returns false'. Refute it at one input. -/
def ruleBackWrong : ChangeSpec := { name := "ruleBack", fn := fun _ => fun
  | [d1, d2] => { results := [.lit (.bool false)], args := [d1, d2] }
  | _ => none }
def RuleBackWrongFalsely : Prop := ruleBackRow.holds Tryd.pinned (OpenSpec.ofChange ruleBackWrong)

/-- 'stockyardlaw04.RuleNarrowsLeft': WHATEVER THE INPUT: true; the input reads as it did. -/
def ruleNarrowsLeftSpec : ChangeSpec := { name := "ruleNarrowsLeft", fn := fun _ => fun
  | [d1, d2] => { results := [.lit (.bool true)], args := [d1, d2] }
  | _ => none }
def ruleNarrowsLeftRow : OpenClaim := { program := "ytidjmbmnfnnleaadoor", sum := "23a2a175e3e92d5bd168b1d556fdbf36c2d4f287dc00b334fc9fd6c44a626478", func := "stockyard/stockyardlaw04.RuleNarrowsLeft", spec := "ruleNarrowsLeft", inPlace := ["internal/bytealg.CountString", "internal/bytealg.IndexByteString", "internal/bytealg.IndexString", "internal/abi.NoEscape", "internal/bytealg.MakeNoZero"], named := ["unicode/utf8.first", "unicode/utf8.acceptRanges", "internal/bytealg.MaxLen"], apart := false, laid := [("unicode/utf8.acceptRanges", laid_unicode_utf8_acceptRanges), ("unicode/utf8.first", laid_unicode_utf8_first)] }
def RuleNarrowsLeftSaid : Prop := ruleNarrowsLeftRow.holds Tryd.pinned (OpenSpec.ofChange ruleNarrowsLeftSpec)

/-- ITS FALSE NEIGHBOUR: 'it returns false'. Refute it at one input. -/
def ruleNarrowsLeftWrong : ChangeSpec := { name := "ruleNarrowsLeft", fn := fun _ => fun
  | [d1, d2] => { results := [.lit (.bool false)], args := [d1, d2] }
  | _ => none }
def RuleNarrowsLeftWrongFalsely : Prop := ruleNarrowsLeftRow.holds Tryd.pinned (OpenSpec.ofChange ruleNarrowsLeftWrong)

/-- 'stockyardlaw04.RuleNarrowMeans': WHATEVER THE INPUT: true; the input reads as it did. -/
def ruleNarrowMeansSpec : ChangeSpec := { name := "ruleNarrowMeans", fn := fun _ => fun
  | [d1, d2, d3] => { results := [.lit (.bool true)], args := [d1, d2, d3] }
  | _ => none }
def ruleNarrowMeansRow : OpenClaim := { program := "ytidjmbmnfnnleaadoor", sum := "23a2a175e3e92d5bd168b1d556fdbf36c2d4f287dc00b334fc9fd6c44a626478", func := "stockyard/stockyardlaw04.RuleNarrowMeans", spec := "ruleNarrowMeans", inPlace := ["internal/bytealg.CountString", "internal/bytealg.IndexByteString", "internal/bytealg.IndexString", "internal/abi.NoEscape", "internal/bytealg.MakeNoZero"], named := ["unicode/utf8.first", "unicode/utf8.acceptRanges", "internal/bytealg.MaxLen"], apart := false, laid := [("unicode/utf8.acceptRanges", laid_unicode_utf8_acceptRanges), ("unicode/utf8.first", laid_unicode_utf8_first)] }
def RuleNarrowMeansSaid : Prop := ruleNarrowMeansRow.holds Tryd.pinned (OpenSpec.ofChange ruleNarrowMeansSpec)

/-- ITS FALSE NEIGHBOUR: 'it returns false'. Refute it at one input. -/
def ruleNarrowMeansWrong : ChangeSpec := { name := "ruleNarrowMeans", fn := fun _ => fun
  | [d1, d2, d3] => { results := [.lit (.bool false)], args := [d1, d2, d3] }
  | _ => none }
def RuleNarrowMeansWrongFalsely : Prop := ruleNarrowMeansRow.holds Tryd.pinned (OpenSpec.ofChange ruleNarrowMeansWrong)

/-- 'stockyardlaw04.RuleChainMeans': WHATEVER THE INPUT: true; the input reads as it did. -/
def ruleChainMeansSpec : ChangeSpec := { name := "ruleChainMeans", fn := fun _ => fun
  | [d1, d2, d3] => { results := [.lit (.bool true)], args := [d1, d2, d3] }
  | _ => none }
def ruleChainMeansRow : OpenClaim := { program := "ytidjmbmnfnnleaadoor", sum := "23a2a175e3e92d5bd168b1d556fdbf36c2d4f287dc00b334fc9fd6c44a626478", func := "stockyard/stockyardlaw04.RuleChainMeans", spec := "ruleChainMeans", inPlace := ["internal/bytealg.CountString", "internal/bytealg.IndexByteString", "internal/bytealg.IndexString", "internal/abi.NoEscape", "internal/bytealg.MakeNoZero"], named := ["unicode/utf8.first", "unicode/utf8.acceptRanges", "internal/bytealg.MaxLen"], apart := false, laid := [("unicode/utf8.acceptRanges", laid_unicode_utf8_acceptRanges), ("unicode/utf8.first", laid_unicode_utf8_first)] }
def RuleChainMeansSaid : Prop := ruleChainMeansRow.holds Tryd.pinned (OpenSpec.ofChange ruleChainMeansSpec)

/-- ITS FALSE NEIGHBOUR: 'it returns false'. Refute it at one input. -/
def ruleChainMeansWrong : ChangeSpec := { name := "ruleChainMeans", fn := fun _ => fun
  | [d1, d2, d3] => { results := [.lit (.bool false)], args := [d1, d2, d3] }
  | _ => none }
def RuleChainMeansWrongFalsely : Prop := ruleChainMeansRow.holds Tryd.pinned (OpenSpec.ofChange ruleChainMeansWrong)

/-- 'stockyardlaw04.RuleAssociates': WHATEVER THE INPUT: true; the input reads as it did. -/
def ruleAssociatesSpec : ChangeSpec := { name := "ruleAssociates", fn := fun _ => fun
  | [d1, d2, d3] => { results := [.lit (.bool true)], args := [d1, d2, d3] }
  | _ => none }
def ruleAssociatesRow : OpenClaim := { program := "ytidjmbmnfnnleaadoor", sum := "23a2a175e3e92d5bd168b1d556fdbf36c2d4f287dc00b334fc9fd6c44a626478", func := "stockyard/stockyardlaw04.RuleAssociates", spec := "ruleAssociates", inPlace := ["internal/bytealg.CountString", "internal/bytealg.IndexByteString", "internal/bytealg.IndexString", "internal/abi.NoEscape", "internal/bytealg.MakeNoZero"], named := ["unicode/utf8.first", "unicode/utf8.acceptRanges", "internal/bytealg.MaxLen"], apart := false, laid := [("unicode/utf8.acceptRanges", laid_unicode_utf8_acceptRanges), ("unicode/utf8.first", laid_unicode_utf8_first)] }
def RuleAssociatesSaid : Prop := ruleAssociatesRow.holds Tryd.pinned (OpenSpec.ofChange ruleAssociatesSpec)

/-- ITS FALSE NEIGHBOUR: 'it returns false'. Refute it at one input. -/
def ruleAssociatesWrong : ChangeSpec := { name := "ruleAssociates", fn := fun _ => fun
  | [d1, d2, d3] => { results := [.lit (.bool false)], args := [d1, d2, d3] }
  | _ => none }
def RuleAssociatesWrongFalsely : Prop := ruleAssociatesRow.holds Tryd.pinned (OpenSpec.ofChange ruleAssociatesWrong)

/-- 'stockyardlaw04.RuleNarrowsRight': WHATEVER THE INPUT: true; the input reads as it did. -/
def ruleNarrowsRightSpec : ChangeSpec := { name := "ruleNarrowsRight", fn := fun _ => fun
  | [d1, d2] => { results := [.lit (.bool true)], args := [d1, d2] }
  | _ => none }
def ruleNarrowsRightRow : OpenClaim := { program := "ytidjmbmnfnnleaadoor", sum := "23a2a175e3e92d5bd168b1d556fdbf36c2d4f287dc00b334fc9fd6c44a626478", func := "stockyard/stockyardlaw04.RuleNarrowsRight", spec := "ruleNarrowsRight", inPlace := ["internal/bytealg.CountString", "internal/bytealg.IndexByteString", "internal/bytealg.IndexString", "internal/abi.NoEscape", "internal/bytealg.MakeNoZero"], named := ["unicode/utf8.first", "unicode/utf8.acceptRanges", "internal/bytealg.MaxLen"], apart := false, laid := [("unicode/utf8.acceptRanges", laid_unicode_utf8_acceptRanges), ("unicode/utf8.first", laid_unicode_utf8_first)] }
def RuleNarrowsRightSaid : Prop := ruleNarrowsRightRow.holds Tryd.pinned (OpenSpec.ofChange ruleNarrowsRightSpec)

/-- ITS FALSE NEIGHBOUR: 'it returns false'. Refute it at one input. -/
def ruleNarrowsRightWrong : ChangeSpec := { name := "ruleNarrowsRight", fn := fun _ => fun
  | [d1, d2] => { results := [.lit (.bool false)], args := [d1, d2] }
  | _ => none }
def RuleNarrowsRightWrongFalsely : Prop := ruleNarrowsRightRow.holds Tryd.pinned (OpenSpec.ofChange ruleNarrowsRightWrong)

/-- 'stockyardlaw04.RuleChains': WHATEVER THE INPUT: true; the input reads as it did. -/
def ruleChainsSpec : ChangeSpec := { name := "ruleChains", fn := fun _ => fun
  | [d1, d2] => { results := [.lit (.bool true)], args := [d1, d2] }
  | _ => none }
def ruleChainsRow : OpenClaim := { program := "ytidjmbmnfnnleaadoor", sum := "23a2a175e3e92d5bd168b1d556fdbf36c2d4f287dc00b334fc9fd6c44a626478", func := "stockyard/stockyardlaw04.RuleChains", spec := "ruleChains", inPlace := ["internal/bytealg.CountString", "internal/bytealg.IndexByteString", "internal/bytealg.IndexString", "internal/abi.NoEscape", "internal/bytealg.MakeNoZero"], named := ["unicode/utf8.first", "unicode/utf8.acceptRanges", "internal/bytealg.MaxLen"], apart := false, laid := [("unicode/utf8.acceptRanges", laid_unicode_utf8_acceptRanges), ("unicode/utf8.first", laid_unicode_utf8_first)] }
def RuleChainsSaid : Prop := ruleChainsRow.holds Tryd.pinned (OpenSpec.ofChange ruleChainsSpec)

/-- ITS FALSE NEIGHBOUR: 'it returns false'. Refute it at one input. -/
def ruleChainsWrong : ChangeSpec := { name := "ruleChains", fn := fun _ => fun
  | [d1, d2] => { results := [.lit (.bool false)], args := [d1, d2] }
  | _ => none }
def RuleChainsWrongFalsely : Prop := ruleChainsRow.holds Tryd.pinned (OpenSpec.ofChange ruleChainsWrong)

/-- 'stockyardlaw04.RuleAgrees': WHATEVER THE INPUT: true; the input reads as it did. -/
def ruleAgreesSpec : ChangeSpec := { name := "ruleAgrees", fn := fun _ => fun
  | [d1, d2] => { results := [.lit (.bool true)], args := [d1, d2] }
  | _ => none }
def ruleAgreesRow : OpenClaim := { program := "ytidjmbmnfnnleaadoor", sum := "23a2a175e3e92d5bd168b1d556fdbf36c2d4f287dc00b334fc9fd6c44a626478", func := "stockyard/stockyardlaw04.RuleAgrees", spec := "ruleAgrees", inPlace := ["internal/bytealg.CountString", "internal/bytealg.IndexByteString", "internal/bytealg.IndexString", "internal/abi.NoEscape", "internal/bytealg.MakeNoZero"], named := ["unicode/utf8.first", "unicode/utf8.acceptRanges", "internal/bytealg.MaxLen"], apart := false, laid := [("unicode/utf8.acceptRanges", laid_unicode_utf8_acceptRanges), ("unicode/utf8.first", laid_unicode_utf8_first)] }
def RuleAgreesSaid : Prop := ruleAgreesRow.holds Tryd.pinned (OpenSpec.ofChange ruleAgreesSpec)

/-- ITS FALSE NEIGHBOUR: 'it returns false'. Refute it at one input. -/
def ruleAgreesWrong : ChangeSpec := { name := "ruleAgrees", fn := fun _ => fun
  | [d1, d2] => { results := [.lit (.bool false)], args := [d1, d2] }
  | _ => none }
def RuleAgreesWrongFalsely : Prop := ruleAgreesRow.holds Tryd.pinned (OpenSpec.ofChange ruleAgreesWrong)

/-- 'stockyardlaw04.RuleAgreeMeans': WHATEVER THE INPUT: true; the input reads as it did. -/
def ruleAgreeMeansSpec : ChangeSpec := { name := "ruleAgreeMeans", fn := fun _ => fun
  | [d1, d2, d3] => { results := [.lit (.bool true)], args := [d1, d2, d3] }
  | _ => none }
def ruleAgreeMeansRow : OpenClaim := { program := "ytidjmbmnfnnleaadoor", sum := "23a2a175e3e92d5bd168b1d556fdbf36c2d4f287dc00b334fc9fd6c44a626478", func := "stockyard/stockyardlaw04.RuleAgreeMeans", spec := "ruleAgreeMeans", inPlace := ["internal/bytealg.CountString", "internal/bytealg.IndexByteString", "internal/bytealg.IndexString", "internal/abi.NoEscape", "internal/bytealg.MakeNoZero"], named := ["unicode/utf8.first", "unicode/utf8.acceptRanges", "internal/bytealg.MaxLen"], apart := false, laid := [("unicode/utf8.acceptRanges", laid_unicode_utf8_acceptRanges), ("unicode/utf8.first", laid_unicode_utf8_first)] }
def RuleAgreeMeansSaid : Prop := ruleAgreeMeansRow.holds Tryd.pinned (OpenSpec.ofChange ruleAgreeMeansSpec)

/-- ITS FALSE NEIGHBOUR: 'it returns false'. Refute it at one input. -/
def ruleAgreeMeansWrong : ChangeSpec := { name := "ruleAgreeMeans", fn := fun _ => fun
  | [d1, d2, d3] => { results := [.lit (.bool false)], args := [d1, d2, d3] }
  | _ => none }
def RuleAgreeMeansWrongFalsely : Prop := ruleAgreeMeansRow.holds Tryd.pinned (OpenSpec.ofChange ruleAgreeMeansWrong)

/- THE SECOND FORM. 'bulk': how many values and letters a reading holds, each counted each time it is reached (what is shared counts as often as it is met; a slice's spare places count too). A statement '..UptoSaid' is the law's where the arguments, and the package variables that the reading takes, are together of bulk at most 1048576: NARROWER than '..Said'. Prove '..Said' where nothing that the law and all that it calls make is longer than what came in: it says more and counts as full. Else prove '..UptoSaid'. A law counts once. -/
mutual
def uptoBulk {H : Type} : DataW H → Nat
  | .lit (.string bytes) => bytes.length + 1
  | .lit _ => 1
  | .nil => 1
  | .ptr d => uptoBulk d + 1
  | .slice elems spare => uptoBulkAll elems + uptoBulkAll spare + 1
  | .agg parts => uptoBulkAll parts + 1
  | .iface _ d => uptoBulk d + 1
  | .map entries => uptoBulkEntries entries + 1
  | .held _ => 1
def uptoBulkAll {H : Type} : List (DataW H) → Nat
  | [] => 0
  | d :: r => uptoBulk d + uptoBulkAll r
def uptoBulkEntries {H : Type} : List (Lit × DataW H) → Nat
  | [] => 0
  | x :: r => uptoBulkEntry x + uptoBulkEntries r
def uptoBulkEntry {H : Type} : Lit × DataW H → Nat
  | (.string bytes, d) => bytes.length + uptoBulk d + 1
  | (_, d) => uptoBulk d + 1
 end
def uptoSmall : (H : Type) → List (DataW H) → Bool := fun _ ds => decide (uptoBulkAll ds ≤ 1048576)
def OpenSpec.upto (s : _root_.Go.ChangeSpec) : _root_.Go.OpenSpec := { _root_.Go.OpenSpec.ofChange s with cond := some uptoSmall }

/-- 'stockyardlaw04.RuleMaps', WHERE WHAT IT READS IS OF BULK AT MOST 1048576: true; the input reads as it did. -/
def ruleMapsUptoRow : OpenClaim := { program := "ytidjmbmnfnnleaadoor", sum := "23a2a175e3e92d5bd168b1d556fdbf36c2d4f287dc00b334fc9fd6c44a626478", func := "stockyard/stockyardlaw04.RuleMaps", spec := "ruleMaps", inPlace := ["internal/bytealg.CountString", "internal/bytealg.IndexByteString", "internal/bytealg.IndexString", "internal/abi.NoEscape", "internal/bytealg.MakeNoZero"], named := ["unicode/utf8.first", "unicode/utf8.acceptRanges", "internal/bytealg.MaxLen"], apart := false, laid := [("unicode/utf8.acceptRanges", laid_unicode_utf8_acceptRanges), ("unicode/utf8.first", laid_unicode_utf8_first)], narrowed := true }
def RuleMapsUptoSaid : Prop := ruleMapsUptoRow.holds Tryd.pinned (OpenSpec.upto ruleMapsSpec)

/-- 'stockyardlaw04.RuleChecks', WHERE WHAT IT READS IS OF BULK AT MOST 1048576: true; the input reads as it did. -/
def ruleChecksUptoRow : OpenClaim := { program := "ytidjmbmnfnnleaadoor", sum := "23a2a175e3e92d5bd168b1d556fdbf36c2d4f287dc00b334fc9fd6c44a626478", func := "stockyard/stockyardlaw04.RuleChecks", spec := "ruleChecks", inPlace := ["internal/bytealg.CountString", "internal/bytealg.IndexByteString", "internal/bytealg.IndexString", "internal/abi.NoEscape", "internal/bytealg.MakeNoZero"], named := ["unicode/utf8.first", "unicode/utf8.acceptRanges", "internal/bytealg.MaxLen"], apart := false, laid := [("unicode/utf8.acceptRanges", laid_unicode_utf8_acceptRanges), ("unicode/utf8.first", laid_unicode_utf8_first)], narrowed := true }
def RuleChecksUptoSaid : Prop := ruleChecksUptoRow.holds Tryd.pinned (OpenSpec.upto ruleChecksSpec)

/-- 'stockyardlaw04.RuleBack', WHERE WHAT IT READS IS OF BULK AT MOST 1048576: true; the input reads as it did. -/
def ruleBackUptoRow : OpenClaim := { program := "ytidjmbmnfnnleaadoor", sum := "23a2a175e3e92d5bd168b1d556fdbf36c2d4f287dc00b334fc9fd6c44a626478", func := "stockyard/stockyardlaw04.RuleBack", spec := "ruleBack", inPlace := ["internal/bytealg.CountString", "internal/bytealg.IndexByteString", "internal/bytealg.IndexString", "internal/abi.NoEscape", "internal/bytealg.MakeNoZero"], named := ["unicode/utf8.first", "unicode/utf8.acceptRanges", "internal/bytealg.MaxLen"], apart := false, laid := [("unicode/utf8.acceptRanges", laid_unicode_utf8_acceptRanges), ("unicode/utf8.first", laid_unicode_utf8_first)], narrowed := true }
def RuleBackUptoSaid : Prop := ruleBackUptoRow.holds Tryd.pinned (OpenSpec.upto ruleBackSpec)

/-- 'stockyardlaw04.RuleNarrowsLeft', WHERE WHAT IT READS IS OF BULK AT MOST 1048576: true; the input reads as it did. -/
def ruleNarrowsLeftUptoRow : OpenClaim := { program := "ytidjmbmnfnnleaadoor", sum := "23a2a175e3e92d5bd168b1d556fdbf36c2d4f287dc00b334fc9fd6c44a626478", func := "stockyard/stockyardlaw04.RuleNarrowsLeft", spec := "ruleNarrowsLeft", inPlace := ["internal/bytealg.CountString", "internal/bytealg.IndexByteString", "internal/bytealg.IndexString", "internal/abi.NoEscape", "internal/bytealg.MakeNoZero"], named := ["unicode/utf8.first", "unicode/utf8.acceptRanges", "internal/bytealg.MaxLen"], apart := false, laid := [("unicode/utf8.acceptRanges", laid_unicode_utf8_acceptRanges), ("unicode/utf8.first", laid_unicode_utf8_first)], narrowed := true }
def RuleNarrowsLeftUptoSaid : Prop := ruleNarrowsLeftUptoRow.holds Tryd.pinned (OpenSpec.upto ruleNarrowsLeftSpec)

/-- 'stockyardlaw04.RuleNarrowMeans', WHERE WHAT IT READS IS OF BULK AT MOST 1048576: true; the input reads as it did. -/
def ruleNarrowMeansUptoRow : OpenClaim := { program := "ytidjmbmnfnnleaadoor", sum := "23a2a175e3e92d5bd168b1d556fdbf36c2d4f287dc00b334fc9fd6c44a626478", func := "stockyard/stockyardlaw04.RuleNarrowMeans", spec := "ruleNarrowMeans", inPlace := ["internal/bytealg.CountString", "internal/bytealg.IndexByteString", "internal/bytealg.IndexString", "internal/abi.NoEscape", "internal/bytealg.MakeNoZero"], named := ["unicode/utf8.first", "unicode/utf8.acceptRanges", "internal/bytealg.MaxLen"], apart := false, laid := [("unicode/utf8.acceptRanges", laid_unicode_utf8_acceptRanges), ("unicode/utf8.first", laid_unicode_utf8_first)], narrowed := true }
def RuleNarrowMeansUptoSaid : Prop := ruleNarrowMeansUptoRow.holds Tryd.pinned (OpenSpec.upto ruleNarrowMeansSpec)

/-- 'stockyardlaw04.RuleChainMeans', WHERE WHAT IT READS IS OF BULK AT MOST 1048576: true; the input reads as it did. -/
def ruleChainMeansUptoRow : OpenClaim := { program := "ytidjmbmnfnnleaadoor", sum := "23a2a175e3e92d5bd168b1d556fdbf36c2d4f287dc00b334fc9fd6c44a626478", func := "stockyard/stockyardlaw04.RuleChainMeans", spec := "ruleChainMeans", inPlace := ["internal/bytealg.CountString", "internal/bytealg.IndexByteString", "internal/bytealg.IndexString", "internal/abi.NoEscape", "internal/bytealg.MakeNoZero"], named := ["unicode/utf8.first", "unicode/utf8.acceptRanges", "internal/bytealg.MaxLen"], apart := false, laid := [("unicode/utf8.acceptRanges", laid_unicode_utf8_acceptRanges), ("unicode/utf8.first", laid_unicode_utf8_first)], narrowed := true }
def RuleChainMeansUptoSaid : Prop := ruleChainMeansUptoRow.holds Tryd.pinned (OpenSpec.upto ruleChainMeansSpec)

/-- 'stockyardlaw04.RuleAssociates', WHERE WHAT IT READS IS OF BULK AT MOST 1048576: true; the input reads as it did. -/
def ruleAssociatesUptoRow : OpenClaim := { program := "ytidjmbmnfnnleaadoor", sum := "23a2a175e3e92d5bd168b1d556fdbf36c2d4f287dc00b334fc9fd6c44a626478", func := "stockyard/stockyardlaw04.RuleAssociates", spec := "ruleAssociates", inPlace := ["internal/bytealg.CountString", "internal/bytealg.IndexByteString", "internal/bytealg.IndexString", "internal/abi.NoEscape", "internal/bytealg.MakeNoZero"], named := ["unicode/utf8.first", "unicode/utf8.acceptRanges", "internal/bytealg.MaxLen"], apart := false, laid := [("unicode/utf8.acceptRanges", laid_unicode_utf8_acceptRanges), ("unicode/utf8.first", laid_unicode_utf8_first)], narrowed := true }
def RuleAssociatesUptoSaid : Prop := ruleAssociatesUptoRow.holds Tryd.pinned (OpenSpec.upto ruleAssociatesSpec)

/-- 'stockyardlaw04.RuleNarrowsRight', WHERE WHAT IT READS IS OF BULK AT MOST 1048576: true; the input reads as it did. -/
def ruleNarrowsRightUptoRow : OpenClaim := { program := "ytidjmbmnfnnleaadoor", sum := "23a2a175e3e92d5bd168b1d556fdbf36c2d4f287dc00b334fc9fd6c44a626478", func := "stockyard/stockyardlaw04.RuleNarrowsRight", spec := "ruleNarrowsRight", inPlace := ["internal/bytealg.CountString", "internal/bytealg.IndexByteString", "internal/bytealg.IndexString", "internal/abi.NoEscape", "internal/bytealg.MakeNoZero"], named := ["unicode/utf8.first", "unicode/utf8.acceptRanges", "internal/bytealg.MaxLen"], apart := false, laid := [("unicode/utf8.acceptRanges", laid_unicode_utf8_acceptRanges), ("unicode/utf8.first", laid_unicode_utf8_first)], narrowed := true }
def RuleNarrowsRightUptoSaid : Prop := ruleNarrowsRightUptoRow.holds Tryd.pinned (OpenSpec.upto ruleNarrowsRightSpec)

/-- 'stockyardlaw04.RuleChains', WHERE WHAT IT READS IS OF BULK AT MOST 1048576: true; the input reads as it did. -/
def ruleChainsUptoRow : OpenClaim := { program := "ytidjmbmnfnnleaadoor", sum := "23a2a175e3e92d5bd168b1d556fdbf36c2d4f287dc00b334fc9fd6c44a626478", func := "stockyard/stockyardlaw04.RuleChains", spec := "ruleChains", inPlace := ["internal/bytealg.CountString", "internal/bytealg.IndexByteString", "internal/bytealg.IndexString", "internal/abi.NoEscape", "internal/bytealg.MakeNoZero"], named := ["unicode/utf8.first", "unicode/utf8.acceptRanges", "internal/bytealg.MaxLen"], apart := false, laid := [("unicode/utf8.acceptRanges", laid_unicode_utf8_acceptRanges), ("unicode/utf8.first", laid_unicode_utf8_first)], narrowed := true }
def RuleChainsUptoSaid : Prop := ruleChainsUptoRow.holds Tryd.pinned (OpenSpec.upto ruleChainsSpec)

/-- 'stockyardlaw04.RuleAgrees', WHERE WHAT IT READS IS OF BULK AT MOST 1048576: true; the input reads as it did. -/
def ruleAgreesUptoRow : OpenClaim := { program := "ytidjmbmnfnnleaadoor", sum := "23a2a175e3e92d5bd168b1d556fdbf36c2d4f287dc00b334fc9fd6c44a626478", func := "stockyard/stockyardlaw04.RuleAgrees", spec := "ruleAgrees", inPlace := ["internal/bytealg.CountString", "internal/bytealg.IndexByteString", "internal/bytealg.IndexString", "internal/abi.NoEscape", "internal/bytealg.MakeNoZero"], named := ["unicode/utf8.first", "unicode/utf8.acceptRanges", "internal/bytealg.MaxLen"], apart := false, laid := [("unicode/utf8.acceptRanges", laid_unicode_utf8_acceptRanges), ("unicode/utf8.first", laid_unicode_utf8_first)], narrowed := true }
def RuleAgreesUptoSaid : Prop := ruleAgreesUptoRow.holds Tryd.pinned (OpenSpec.upto ruleAgreesSpec)

/-- 'stockyardlaw04.RuleAgreeMeans', WHERE WHAT IT READS IS OF BULK AT MOST 1048576: true; the input reads as it did. -/
def ruleAgreeMeansUptoRow : OpenClaim := { program := "ytidjmbmnfnnleaadoor", sum := "23a2a175e3e92d5bd168b1d556fdbf36c2d4f287dc00b334fc9fd6c44a626478", func := "stockyard/stockyardlaw04.RuleAgreeMeans", spec := "ruleAgreeMeans", inPlace := ["internal/bytealg.CountString", "internal/bytealg.IndexByteString", "internal/bytealg.IndexString", "internal/abi.NoEscape", "internal/bytealg.MakeNoZero"], named := ["unicode/utf8.first", "unicode/utf8.acceptRanges", "internal/bytealg.MaxLen"], apart := false, laid := [("unicode/utf8.acceptRanges", laid_unicode_utf8_acceptRanges), ("unicode/utf8.first", laid_unicode_utf8_first)], narrowed := true }
def RuleAgreeMeansUptoSaid : Prop := ruleAgreeMeansUptoRow.holds Tryd.pinned (OpenSpec.upto ruleAgreeMeansSpec)

end Rows
end Go.Proofs.YtidjmbmnfnnleaaDoor
