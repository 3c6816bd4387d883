/-
  NARROWER THAN 'FOR EVERY INPUT', by the rows' own cells (each row's printed sentence says how): PatternParses: laid · PatternMatches: laid · PatternBack: laid · PatternFormats: laid · PatternOutside: laid · PatternWithins: laid · PatternLooks: laid · PatternCaptures: laid · PatternFills: laid · PatternSubstitutes: laid · PatternMeets: laid · PatternBinds: laid · PatternMeans: laid · PatternLaminar: laid · PatternNarrows: laid.
  DERIVED. THE GIVEN ROWS OF THIS SEAT. 15 by the template 'for every input the law returns true; each argument reads behind the call as it read before'; 0 by the template 'total and deterministic' (their statements: YtofmngfmoagenaaDoorTotals.lean).
  GIVEN WITH THE SEED: the statements are not yours to turn. If you find one false, say at which input.
  Laid BY PROGRAM, IN A SANDBOX (cutbox-rows.mjs): the forced cells as the released guide's own fill.sh prints them over the translation de8d60cc15d4c883… (all of the seat's roots in one cut). By AI agents, Wed Nov 11 2026. No macro, syntax, notation, axiom, sorry.
-/
import Derived.Test.YtofmngfmoagenaaDoorChecked
import GoSem.PinnedTables
import GoSem.Claim
import GoSem.ClaimJoined
import GoSem.ClaimMapViews
import Derived.JoinedTies
import Derived.KernelRfl
namespace Go.Proofs.YtofmngfmoagenaaDoor
/- THE CELL 'sum', in the pinned program and in every row, IS THE sha256 OF THE DUMP (.gsa) THAT YtofmngfmoagenaaDoorProg.lean LOADS. Nothing in Lean hashes anything: it is a label: what it is worth is what the hold of that sum in a sandbox is worth. -/
noncomputable def Tryd.pinned : Pinned := { name := "ytofmngfmoagenaadoor", sum := "de8d60cc15d4c8830a1f256d1dce1834d19063ca7dc6298152b5e454c346f547", checked := Tryd.checked }
namespace Rows
def none {H : Type} : Left H := { results := [], args := [] }

/- WHAT THE LISTED PACKAGE-LEVEL VARIABLES READ AS WHEN THE CALL BEGINS. Each datum BY PROGRAM (the guide's laid-datum.mjs) off the statement by which the dump's own 'gosem.cut.vars' lays the variable. In a bare row this is a premise. The card (YtofmngfmoagenaaDoorCards.lean) ties it to the program's text. -/
def laid_unicode_utf8_acceptRanges {H : Type} : DataW H := .agg [.agg [.lit (.int .u8 128), .lit (.int .u8 191)], .agg [.lit (.int .u8 160), .lit (.int .u8 191)], .agg [.lit (.int .u8 128), .lit (.int .u8 159)], .agg [.lit (.int .u8 144), .lit (.int .u8 191)], .agg [.lit (.int .u8 128), .lit (.int .u8 143)], .agg [.lit (.int .u8 0), .lit (.int .u8 0)], .agg [.lit (.int .u8 0), .lit (.int .u8 0)], .agg [.lit (.int .u8 0), .lit (.int .u8 0)], .agg [.lit (.int .u8 0), .lit (.int .u8 0)], .agg [.lit (.int .u8 0), .lit (.int .u8 0)], .agg [.lit (.int .u8 0), .lit (.int .u8 0)], .agg [.lit (.int .u8 0), .lit (.int .u8 0)], .agg [.lit (.int .u8 0), .lit (.int .u8 0)], .agg [.lit (.int .u8 0), .lit (.int .u8 0)], .agg [.lit (.int .u8 0), .lit (.int .u8 0)], .agg [.lit (.int .u8 0), .lit (.int .u8 0)]]
/-- One of Go's own tables, pinned by name: the form's constant. -/
def laid_unicode_utf8_first : DataW Unit := Go.Pinned.utf8First

/-- 'stockyardlaw03.PatternParses': WHATEVER THE INPUT: true; the input reads as it did. -/
def patternParsesSpec : ChangeSpec := { name := "patternParses", fn := fun _ => fun
  | [d] => { results := [.lit (.bool true)], args := [d] }
  | _ => none }
def patternParsesRow : OpenClaim := { program := "ytofmngfmoagenaadoor", sum := "de8d60cc15d4c8830a1f256d1dce1834d19063ca7dc6298152b5e454c346f547", func := "stockyard/stockyardlaw03.PatternParses", spec := "patternParses", inPlace := ["internal/bytealg.CountString", "internal/bytealg.IndexByteString", "internal/bytealg.IndexString", "internal/abi.NoEscape", "internal/bytealg.MakeNoZero"], named := ["unicode/utf8.first", "unicode/utf8.acceptRanges", "internal/bytealg.MaxLen"], apart := false, laid := [("unicode/utf8.acceptRanges", laid_unicode_utf8_acceptRanges), ("unicode/utf8.first", laid_unicode_utf8_first)] }
def PatternParsesSaid : Prop := patternParsesRow.holds Tryd.pinned (OpenSpec.ofChange patternParsesSpec)

/-- ITS FALSE NEIGHBOUR: 'it returns false'. Refute it at one input. -/
def patternParsesWrong : ChangeSpec := { name := "patternParses", fn := fun _ => fun
  | [d] => { results := [.lit (.bool false)], args := [d] }
  | _ => none }
def PatternParsesWrongFalsely : Prop := patternParsesRow.holds Tryd.pinned (OpenSpec.ofChange patternParsesWrong)

/-- 'stockyardlaw03.PatternMatches': WHATEVER THE INPUT: true; the input reads as it did. -/
def patternMatchesSpec : ChangeSpec := { name := "patternMatches", fn := fun _ => fun
  | [d1, d2] => { results := [.lit (.bool true)], args := [d1, d2] }
  | _ => none }
def patternMatchesRow : OpenClaim := { program := "ytofmngfmoagenaadoor", sum := "de8d60cc15d4c8830a1f256d1dce1834d19063ca7dc6298152b5e454c346f547", func := "stockyard/stockyardlaw03.PatternMatches", spec := "patternMatches", inPlace := ["internal/bytealg.CountString", "internal/bytealg.IndexByteString", "internal/bytealg.IndexString", "internal/abi.NoEscape", "internal/bytealg.MakeNoZero"], named := ["unicode/utf8.first", "unicode/utf8.acceptRanges", "internal/bytealg.MaxLen"], apart := false, laid := [("unicode/utf8.acceptRanges", laid_unicode_utf8_acceptRanges), ("unicode/utf8.first", laid_unicode_utf8_first)] }
def PatternMatchesSaid : Prop := patternMatchesRow.holds Tryd.pinned (OpenSpec.ofChange patternMatchesSpec)

/-- ITS FALSE NEIGHBOUR: 'it returns false'. Refute it at one input. -/
def patternMatchesWrong : ChangeSpec := { name := "patternMatches", fn := fun _ => fun
  | [d1, d2] => { results := [.lit (.bool false)], args := [d1, d2] }
  | _ => none }
def PatternMatchesWrongFalsely : Prop := patternMatchesRow.holds Tryd.pinned (OpenSpec.ofChange patternMatchesWrong)

/-- 'stockyardlaw03.PatternBack': WHATEVER THE INPUT: true; the input reads as it did. -/
def patternBackSpec : ChangeSpec := { name := "patternBack", fn := fun _ => fun
  | [d1, d2] => { results := [.lit (.bool true)], args := [d1, d2] }
  | _ => none }
def patternBackRow : OpenClaim := { program := "ytofmngfmoagenaadoor", sum := "de8d60cc15d4c8830a1f256d1dce1834d19063ca7dc6298152b5e454c346f547", func := "stockyard/stockyardlaw03.PatternBack", spec := "patternBack", inPlace := ["internal/bytealg.CountString", "internal/bytealg.IndexByteString", "internal/bytealg.IndexString", "internal/abi.NoEscape", "internal/bytealg.MakeNoZero"], named := ["unicode/utf8.first", "unicode/utf8.acceptRanges", "internal/bytealg.MaxLen"], apart := false, laid := [("unicode/utf8.acceptRanges", laid_unicode_utf8_acceptRanges), ("unicode/utf8.first", laid_unicode_utf8_first)] }
def PatternBackSaid : Prop := patternBackRow.holds Tryd.pinned (OpenSpec.ofChange patternBackSpec)

/-- ITS FALSE NEIGHBOUR: 'it returns false'. Refute it at one input. -/
def patternBackWrong : ChangeSpec := { name := "patternBack", fn := fun _ => fun
  | [d1, d2] => { results := [.lit (.bool false)], args := [d1, d2] }
  | _ => none }
def PatternBackWrongFalsely : Prop := patternBackRow.holds Tryd.pinned (OpenSpec.ofChange patternBackWrong)

/-- 'stockyardlaw03.PatternFormats': WHATEVER THE INPUT: true; the input reads as it did. -/
def patternFormatsSpec : ChangeSpec := { name := "patternFormats", fn := fun _ => fun
  | [d] => { results := [.lit (.bool true)], args := [d] }
  | _ => none }
def patternFormatsRow : OpenClaim := { program := "ytofmngfmoagenaadoor", sum := "de8d60cc15d4c8830a1f256d1dce1834d19063ca7dc6298152b5e454c346f547", func := "stockyard/stockyardlaw03.PatternFormats", spec := "patternFormats", inPlace := ["internal/bytealg.CountString", "internal/bytealg.IndexByteString", "internal/bytealg.IndexString", "internal/abi.NoEscape", "internal/bytealg.MakeNoZero"], named := ["unicode/utf8.first", "unicode/utf8.acceptRanges", "internal/bytealg.MaxLen"], apart := false, laid := [("unicode/utf8.acceptRanges", laid_unicode_utf8_acceptRanges), ("unicode/utf8.first", laid_unicode_utf8_first)] }
def PatternFormatsSaid : Prop := patternFormatsRow.holds Tryd.pinned (OpenSpec.ofChange patternFormatsSpec)

/-- ITS FALSE NEIGHBOUR: 'it returns false'. Refute it at one input. -/
def patternFormatsWrong : ChangeSpec := { name := "patternFormats", fn := fun _ => fun
  | [d] => { results := [.lit (.bool false)], args := [d] }
  | _ => none }
def PatternFormatsWrongFalsely : Prop := patternFormatsRow.holds Tryd.pinned (OpenSpec.ofChange patternFormatsWrong)

/-- 'stockyardlaw03.PatternOutside': WHATEVER THE INPUT: true; the input reads as it did. -/
def patternOutsideSpec : ChangeSpec := { name := "patternOutside", fn := fun _ => fun
  | [d1, d2] => { results := [.lit (.bool true)], args := [d1, d2] }
  | _ => none }
def patternOutsideRow : OpenClaim := { program := "ytofmngfmoagenaadoor", sum := "de8d60cc15d4c8830a1f256d1dce1834d19063ca7dc6298152b5e454c346f547", func := "stockyard/stockyardlaw03.PatternOutside", spec := "patternOutside", inPlace := ["internal/bytealg.CountString", "internal/bytealg.IndexByteString", "internal/bytealg.IndexString", "internal/abi.NoEscape", "internal/bytealg.MakeNoZero"], named := ["unicode/utf8.first", "unicode/utf8.acceptRanges", "internal/bytealg.MaxLen"], apart := false, laid := [("unicode/utf8.acceptRanges", laid_unicode_utf8_acceptRanges), ("unicode/utf8.first", laid_unicode_utf8_first)] }
def PatternOutsideSaid : Prop := patternOutsideRow.holds Tryd.pinned (OpenSpec.ofChange patternOutsideSpec)

/-- ITS FALSE NEIGHBOUR: 'it returns false'. Refute it at one input. -/
def patternOutsideWrong : ChangeSpec := { name := "patternOutside", fn := fun _ => fun
  | [d1, d2] => { results := [.lit (.bool false)], args := [d1, d2] }
  | _ => none }
def PatternOutsideWrongFalsely : Prop := patternOutsideRow.holds Tryd.pinned (OpenSpec.ofChange patternOutsideWrong)

/-- 'stockyardlaw03.PatternWithins': WHATEVER THE INPUT: true; the input reads as it did. -/
def patternWithinsSpec : ChangeSpec := { name := "patternWithins", fn := fun _ => fun
  | [d1, d2] => { results := [.lit (.bool true)], args := [d1, d2] }
  | _ => none }
def patternWithinsRow : OpenClaim := { program := "ytofmngfmoagenaadoor", sum := "de8d60cc15d4c8830a1f256d1dce1834d19063ca7dc6298152b5e454c346f547", func := "stockyard/stockyardlaw03.PatternWithins", spec := "patternWithins", inPlace := ["internal/bytealg.CountString", "internal/bytealg.IndexByteString", "internal/bytealg.IndexString", "internal/abi.NoEscape", "internal/bytealg.MakeNoZero"], named := ["unicode/utf8.first", "unicode/utf8.acceptRanges", "internal/bytealg.MaxLen"], apart := false, laid := [("unicode/utf8.acceptRanges", laid_unicode_utf8_acceptRanges), ("unicode/utf8.first", laid_unicode_utf8_first)] }
def PatternWithinsSaid : Prop := patternWithinsRow.holds Tryd.pinned (OpenSpec.ofChange patternWithinsSpec)

/-- ITS FALSE NEIGHBOUR: 'it returns false'. Refute it at one input. -/
def patternWithinsWrong : ChangeSpec := { name := "patternWithins", fn := fun _ => fun
  | [d1, d2] => { results := [.lit (.bool false)], args := [d1, d2] }
  | _ => none }
def PatternWithinsWrongFalsely : Prop := patternWithinsRow.holds Tryd.pinned (OpenSpec.ofChange patternWithinsWrong)

/-- 'stockyardlaw03.PatternLooks': WHATEVER THE INPUT: true; the input reads as it did. -/
def patternLooksSpec : ChangeSpec := { name := "patternLooks", fn := fun _ => fun
  | [d] => { results := [.lit (.bool true)], args := [d] }
  | _ => none }
def patternLooksRow : OpenClaim := { program := "ytofmngfmoagenaadoor", sum := "de8d60cc15d4c8830a1f256d1dce1834d19063ca7dc6298152b5e454c346f547", func := "stockyard/stockyardlaw03.PatternLooks", spec := "patternLooks", inPlace := ["internal/bytealg.CountString", "internal/bytealg.IndexByteString", "internal/bytealg.IndexString", "internal/abi.NoEscape", "internal/bytealg.MakeNoZero"], unfollowed := true, recurses := true, named := ["unicode/utf8.first", "unicode/utf8.acceptRanges", "internal/bytealg.MaxLen"], apart := false, laid := [("unicode/utf8.acceptRanges", laid_unicode_utf8_acceptRanges), ("unicode/utf8.first", laid_unicode_utf8_first)] }
def PatternLooksSaid : Prop := patternLooksRow.holds Tryd.pinned (OpenSpec.ofChange patternLooksSpec)

/-- ITS FALSE NEIGHBOUR: 'it returns false'. Refute it at one input. -/
def patternLooksWrong : ChangeSpec := { name := "patternLooks", fn := fun _ => fun
  | [d] => { results := [.lit (.bool false)], args := [d] }
  | _ => none }
def PatternLooksWrongFalsely : Prop := patternLooksRow.holds Tryd.pinned (OpenSpec.ofChange patternLooksWrong)

/-- 'stockyardlaw03.PatternCaptures': WHATEVER THE INPUT: true; the input reads as it did. -/
def patternCapturesSpec : ChangeSpec := { name := "patternCaptures", fn := fun _ => fun
  | [d1, d2, d3] => { results := [.lit (.bool true)], args := [d1, d2, d3] }
  | _ => none }
def patternCapturesRow : OpenClaim := { program := "ytofmngfmoagenaadoor", sum := "de8d60cc15d4c8830a1f256d1dce1834d19063ca7dc6298152b5e454c346f547", func := "stockyard/stockyardlaw03.PatternCaptures", spec := "patternCaptures", inPlace := ["internal/bytealg.CountString", "internal/bytealg.IndexByteString", "internal/bytealg.IndexString", "internal/abi.NoEscape", "internal/bytealg.MakeNoZero"], named := ["unicode/utf8.first", "unicode/utf8.acceptRanges", "internal/bytealg.MaxLen"], apart := false, laid := [("unicode/utf8.acceptRanges", laid_unicode_utf8_acceptRanges), ("unicode/utf8.first", laid_unicode_utf8_first)] }
def PatternCapturesSaid : Prop := patternCapturesRow.holds Tryd.pinned (OpenSpec.ofChange patternCapturesSpec)

/-- ITS FALSE NEIGHBOUR: 'it returns false'. Refute it at one input. -/
def patternCapturesWrong : ChangeSpec := { name := "patternCaptures", fn := fun _ => fun
  | [d1, d2, d3] => { results := [.lit (.bool false)], args := [d1, d2, d3] }
  | _ => none }
def PatternCapturesWrongFalsely : Prop := patternCapturesRow.holds Tryd.pinned (OpenSpec.ofChange patternCapturesWrong)

/-- 'stockyardlaw03.PatternFills': WHATEVER THE INPUT: true; the input reads as it did. -/
def patternFillsSpec : ChangeSpec := { name := "patternFills", fn := fun _ => fun
  | [d1, d2] => { results := [.lit (.bool true)], args := [d1, d2] }
  | _ => none }
def patternFillsRow : OpenClaim := { program := "ytofmngfmoagenaadoor", sum := "de8d60cc15d4c8830a1f256d1dce1834d19063ca7dc6298152b5e454c346f547", func := "stockyard/stockyardlaw03.PatternFills", spec := "patternFills", inPlace := ["internal/bytealg.CountString", "internal/bytealg.IndexByteString", "internal/bytealg.IndexString", "internal/abi.NoEscape", "internal/bytealg.MakeNoZero"], named := ["unicode/utf8.first", "unicode/utf8.acceptRanges", "internal/bytealg.MaxLen"], apart := false, laid := [("unicode/utf8.acceptRanges", laid_unicode_utf8_acceptRanges), ("unicode/utf8.first", laid_unicode_utf8_first)] }
def PatternFillsSaid : Prop := patternFillsRow.holds Tryd.pinned (OpenSpec.ofChange patternFillsSpec)

/-- ITS FALSE NEIGHBOUR: 'it returns false'. Refute it at one input. -/
def patternFillsWrong : ChangeSpec := { name := "patternFills", fn := fun _ => fun
  | [d1, d2] => { results := [.lit (.bool false)], args := [d1, d2] }
  | _ => none }
def PatternFillsWrongFalsely : Prop := patternFillsRow.holds Tryd.pinned (OpenSpec.ofChange patternFillsWrong)

/-- 'stockyardlaw03.PatternSubstitutes': WHATEVER THE INPUT: true; the input reads as it did. -/
def patternSubstitutesSpec : ChangeSpec := { name := "patternSubstitutes", fn := fun _ => fun
  | [d1, d2] => { results := [.lit (.bool true)], args := [d1, d2] }
  | _ => none }
def patternSubstitutesRow : OpenClaim := { program := "ytofmngfmoagenaadoor", sum := "de8d60cc15d4c8830a1f256d1dce1834d19063ca7dc6298152b5e454c346f547", func := "stockyard/stockyardlaw03.PatternSubstitutes", spec := "patternSubstitutes", inPlace := ["internal/bytealg.CountString", "internal/bytealg.IndexByteString", "internal/bytealg.IndexString", "internal/abi.NoEscape", "internal/bytealg.MakeNoZero"], named := ["unicode/utf8.first", "unicode/utf8.acceptRanges", "internal/bytealg.MaxLen"], apart := false, laid := [("unicode/utf8.acceptRanges", laid_unicode_utf8_acceptRanges), ("unicode/utf8.first", laid_unicode_utf8_first)] }
def PatternSubstitutesSaid : Prop := patternSubstitutesRow.holds Tryd.pinned (OpenSpec.ofChange patternSubstitutesSpec)

/-- ITS FALSE NEIGHBOUR: 'it returns false'. Refute it at one input. -/
def patternSubstitutesWrong : ChangeSpec := { name := "patternSubstitutes", fn := fun _ => fun
  | [d1, d2] => { results := [.lit (.bool false)], args := [d1, d2] }
  | _ => none }
def PatternSubstitutesWrongFalsely : Prop := patternSubstitutesRow.holds Tryd.pinned (OpenSpec.ofChange patternSubstitutesWrong)

/-- 'stockyardlaw03.PatternMeets': WHATEVER THE INPUT: true; the input reads as it did. -/
def patternMeetsSpec : ChangeSpec := { name := "patternMeets", fn := fun _ => fun
  | [d1, d2] => { results := [.lit (.bool true)], args := [d1, d2] }
  | _ => none }
def patternMeetsRow : OpenClaim := { program := "ytofmngfmoagenaadoor", sum := "de8d60cc15d4c8830a1f256d1dce1834d19063ca7dc6298152b5e454c346f547", func := "stockyard/stockyardlaw03.PatternMeets", spec := "patternMeets", inPlace := ["internal/bytealg.CountString", "internal/bytealg.IndexByteString", "internal/bytealg.IndexString", "internal/abi.NoEscape", "internal/bytealg.MakeNoZero"], named := ["unicode/utf8.first", "unicode/utf8.acceptRanges", "internal/bytealg.MaxLen"], apart := false, laid := [("unicode/utf8.acceptRanges", laid_unicode_utf8_acceptRanges), ("unicode/utf8.first", laid_unicode_utf8_first)] }
def PatternMeetsSaid : Prop := patternMeetsRow.holds Tryd.pinned (OpenSpec.ofChange patternMeetsSpec)

/-- ITS FALSE NEIGHBOUR: 'it returns false'. Refute it at one input. -/
def patternMeetsWrong : ChangeSpec := { name := "patternMeets", fn := fun _ => fun
  | [d1, d2] => { results := [.lit (.bool false)], args := [d1, d2] }
  | _ => none }
def PatternMeetsWrongFalsely : Prop := patternMeetsRow.holds Tryd.pinned (OpenSpec.ofChange patternMeetsWrong)

/-- 'stockyardlaw03.PatternBinds': WHATEVER THE INPUT: true; the input reads as it did. -/
def patternBindsSpec : ChangeSpec := { name := "patternBinds", fn := fun _ => fun
  | [d1, d2] => { results := [.lit (.bool true)], args := [d1, d2] }
  | _ => none }
def patternBindsRow : OpenClaim := { program := "ytofmngfmoagenaadoor", sum := "de8d60cc15d4c8830a1f256d1dce1834d19063ca7dc6298152b5e454c346f547", func := "stockyard/stockyardlaw03.PatternBinds", spec := "patternBinds", inPlace := ["internal/bytealg.CountString", "internal/bytealg.IndexByteString", "internal/bytealg.IndexString", "internal/abi.NoEscape", "internal/bytealg.MakeNoZero"], named := ["unicode/utf8.first", "unicode/utf8.acceptRanges", "internal/bytealg.MaxLen"], apart := false, laid := [("unicode/utf8.acceptRanges", laid_unicode_utf8_acceptRanges), ("unicode/utf8.first", laid_unicode_utf8_first)] }
def PatternBindsSaid : Prop := patternBindsRow.holds Tryd.pinned (OpenSpec.ofChange patternBindsSpec)

/-- ITS FALSE NEIGHBOUR: 'it returns false'. Refute it at one input. -/
def patternBindsWrong : ChangeSpec := { name := "patternBinds", fn := fun _ => fun
  | [d1, d2] => { results := [.lit (.bool false)], args := [d1, d2] }
  | _ => none }
def PatternBindsWrongFalsely : Prop := patternBindsRow.holds Tryd.pinned (OpenSpec.ofChange patternBindsWrong)

/-- 'stockyardlaw03.PatternMeans': WHATEVER THE INPUT: true; the input reads as it did. -/
def patternMeansSpec : ChangeSpec := { name := "patternMeans", fn := fun _ => fun
  | [d1, d2, d3] => { results := [.lit (.bool true)], args := [d1, d2, d3] }
  | _ => none }
def patternMeansRow : OpenClaim := { program := "ytofmngfmoagenaadoor", sum := "de8d60cc15d4c8830a1f256d1dce1834d19063ca7dc6298152b5e454c346f547", func := "stockyard/stockyardlaw03.PatternMeans", spec := "patternMeans", inPlace := ["internal/bytealg.CountString", "internal/bytealg.IndexByteString", "internal/bytealg.IndexString", "internal/abi.NoEscape", "internal/bytealg.MakeNoZero"], named := ["unicode/utf8.first", "unicode/utf8.acceptRanges", "internal/bytealg.MaxLen"], apart := false, laid := [("unicode/utf8.acceptRanges", laid_unicode_utf8_acceptRanges), ("unicode/utf8.first", laid_unicode_utf8_first)] }
def PatternMeansSaid : Prop := patternMeansRow.holds Tryd.pinned (OpenSpec.ofChange patternMeansSpec)

/-- ITS FALSE NEIGHBOUR: 'it returns false'. Refute it at one input. -/
def patternMeansWrong : ChangeSpec := { name := "patternMeans", fn := fun _ => fun
  | [d1, d2, d3] => { results := [.lit (.bool false)], args := [d1, d2, d3] }
  | _ => none }
def PatternMeansWrongFalsely : Prop := patternMeansRow.holds Tryd.pinned (OpenSpec.ofChange patternMeansWrong)

/-- 'stockyardlaw03.PatternLaminar': WHATEVER THE INPUT: true; the input reads as it did. -/
def patternLaminarSpec : ChangeSpec := { name := "patternLaminar", fn := fun _ => fun
  | [d1, d2] => { results := [.lit (.bool true)], args := [d1, d2] }
  | _ => none }
def patternLaminarRow : OpenClaim := { program := "ytofmngfmoagenaadoor", sum := "de8d60cc15d4c8830a1f256d1dce1834d19063ca7dc6298152b5e454c346f547", func := "stockyard/stockyardlaw03.PatternLaminar", spec := "patternLaminar", inPlace := ["internal/bytealg.CountString", "internal/bytealg.IndexByteString", "internal/bytealg.IndexString", "internal/abi.NoEscape", "internal/bytealg.MakeNoZero"], named := ["unicode/utf8.first", "unicode/utf8.acceptRanges", "internal/bytealg.MaxLen"], apart := false, laid := [("unicode/utf8.acceptRanges", laid_unicode_utf8_acceptRanges), ("unicode/utf8.first", laid_unicode_utf8_first)] }
def PatternLaminarSaid : Prop := patternLaminarRow.holds Tryd.pinned (OpenSpec.ofChange patternLaminarSpec)

/-- ITS FALSE NEIGHBOUR: 'it returns false'. Refute it at one input. -/
def patternLaminarWrong : ChangeSpec := { name := "patternLaminar", fn := fun _ => fun
  | [d1, d2] => { results := [.lit (.bool false)], args := [d1, d2] }
  | _ => none }
def PatternLaminarWrongFalsely : Prop := patternLaminarRow.holds Tryd.pinned (OpenSpec.ofChange patternLaminarWrong)

/-- 'stockyardlaw03.PatternNarrows': WHATEVER THE INPUT: true; the input reads as it did. -/
def patternNarrowsSpec : ChangeSpec := { name := "patternNarrows", fn := fun _ => fun
  | [d1, d2, d3] => { results := [.lit (.bool true)], args := [d1, d2, d3] }
  | _ => none }
def patternNarrowsRow : OpenClaim := { program := "ytofmngfmoagenaadoor", sum := "de8d60cc15d4c8830a1f256d1dce1834d19063ca7dc6298152b5e454c346f547", func := "stockyard/stockyardlaw03.PatternNarrows", spec := "patternNarrows", inPlace := ["internal/bytealg.CountString", "internal/bytealg.IndexByteString", "internal/bytealg.IndexString", "internal/abi.NoEscape", "internal/bytealg.MakeNoZero"], named := ["unicode/utf8.first", "unicode/utf8.acceptRanges", "internal/bytealg.MaxLen"], apart := false, laid := [("unicode/utf8.acceptRanges", laid_unicode_utf8_acceptRanges), ("unicode/utf8.first", laid_unicode_utf8_first)] }
def PatternNarrowsSaid : Prop := patternNarrowsRow.holds Tryd.pinned (OpenSpec.ofChange patternNarrowsSpec)

/-- ITS FALSE NEIGHBOUR: 'it returns false'. Refute it at one input. -/
def patternNarrowsWrong : ChangeSpec := { name := "patternNarrows", fn := fun _ => fun
  | [d1, d2, d3] => { results := [.lit (.bool false)], args := [d1, d2, d3] }
  | _ => none }
def PatternNarrowsWrongFalsely : Prop := patternNarrowsRow.holds Tryd.pinned (OpenSpec.ofChange patternNarrowsWrong)

/- THE SECOND FORM. 'bulk': how many values and letters a reading holds, each counted each time it is reached (what is shared counts as often as it is met; a slice's spare places count too). A statement '..UptoSaid' is the law's where the arguments, and the package variables that the reading takes, are together of bulk at most 1048576: NARROWER than '..Said'. Prove '..Said' where nothing that the law and all that it calls make is longer than what came in: it says more and counts as full. Else prove '..UptoSaid'. A law counts once. -/
mutual
def uptoBulk {H : Type} : DataW H → Nat
  | .lit (.string bytes) => bytes.length + 1
  | .lit _ => 1
  | .nil => 1
  | .ptr d => uptoBulk d + 1
  | .slice elems spare => uptoBulkAll elems + uptoBulkAll spare + 1
  | .agg parts => uptoBulkAll parts + 1
  | .iface _ d => uptoBulk d + 1
  | .map entries => uptoBulkEntries entries + 1
  | .held _ => 1
def uptoBulkAll {H : Type} : List (DataW H) → Nat
  | [] => 0
  | d :: r => uptoBulk d + uptoBulkAll r
def uptoBulkEntries {H : Type} : List (Lit × DataW H) → Nat
  | [] => 0
  | x :: r => uptoBulkEntry x + uptoBulkEntries r
def uptoBulkEntry {H : Type} : Lit × DataW H → Nat
  | (.string bytes, d) => bytes.length + uptoBulk d + 1
  | (_, d) => uptoBulk d + 1
 end
def uptoSmall : (H : Type) → List (DataW H) → Bool := fun _ ds => decide (uptoBulkAll ds ≤ 1048576)
def OpenSpec.upto (s : _root_.Go.ChangeSpec) : _root_.Go.OpenSpec := { _root_.Go.OpenSpec.ofChange s with cond := some uptoSmall }

/-- 'stockyardlaw03.PatternParses', WHERE WHAT IT READS IS OF BULK AT MOST 1048576: true; the input reads as it did. -/
def patternParsesUptoRow : OpenClaim := { program := "ytofmngfmoagenaadoor", sum := "de8d60cc15d4c8830a1f256d1dce1834d19063ca7dc6298152b5e454c346f547", func := "stockyard/stockyardlaw03.PatternParses", spec := "patternParses", inPlace := ["internal/bytealg.CountString", "internal/bytealg.IndexByteString", "internal/bytealg.IndexString", "internal/abi.NoEscape", "internal/bytealg.MakeNoZero"], named := ["unicode/utf8.first", "unicode/utf8.acceptRanges", "internal/bytealg.MaxLen"], apart := false, laid := [("unicode/utf8.acceptRanges", laid_unicode_utf8_acceptRanges), ("unicode/utf8.first", laid_unicode_utf8_first)], narrowed := true }
def PatternParsesUptoSaid : Prop := patternParsesUptoRow.holds Tryd.pinned (OpenSpec.upto patternParsesSpec)

/-- 'stockyardlaw03.PatternMatches', WHERE WHAT IT READS IS OF BULK AT MOST 1048576: true; the input reads as it did. -/
def patternMatchesUptoRow : OpenClaim := { program := "ytofmngfmoagenaadoor", sum := "de8d60cc15d4c8830a1f256d1dce1834d19063ca7dc6298152b5e454c346f547", func := "stockyard/stockyardlaw03.PatternMatches", spec := "patternMatches", inPlace := ["internal/bytealg.CountString", "internal/bytealg.IndexByteString", "internal/bytealg.IndexString", "internal/abi.NoEscape", "internal/bytealg.MakeNoZero"], named := ["unicode/utf8.first", "unicode/utf8.acceptRanges", "internal/bytealg.MaxLen"], apart := false, laid := [("unicode/utf8.acceptRanges", laid_unicode_utf8_acceptRanges), ("unicode/utf8.first", laid_unicode_utf8_first)], narrowed := true }
def PatternMatchesUptoSaid : Prop := patternMatchesUptoRow.holds Tryd.pinned (OpenSpec.upto patternMatchesSpec)

/-- 'stockyardlaw03.PatternBack', WHERE WHAT IT READS IS OF BULK AT MOST 1048576: true; the input reads as it did. -/
def patternBackUptoRow : OpenClaim := { program := "ytofmngfmoagenaadoor", sum := "de8d60cc15d4c8830a1f256d1dce1834d19063ca7dc6298152b5e454c346f547", func := "stockyard/stockyardlaw03.PatternBack", spec := "patternBack", inPlace := ["internal/bytealg.CountString", "internal/bytealg.IndexByteString", "internal/bytealg.IndexString", "internal/abi.NoEscape", "internal/bytealg.MakeNoZero"], named := ["unicode/utf8.first", "unicode/utf8.acceptRanges", "internal/bytealg.MaxLen"], apart := false, laid := [("unicode/utf8.acceptRanges", laid_unicode_utf8_acceptRanges), ("unicode/utf8.first", laid_unicode_utf8_first)], narrowed := true }
def PatternBackUptoSaid : Prop := patternBackUptoRow.holds Tryd.pinned (OpenSpec.upto patternBackSpec)

/-- 'stockyardlaw03.PatternFormats', WHERE WHAT IT READS IS OF BULK AT MOST 1048576: true; the input reads as it did. -/
def patternFormatsUptoRow : OpenClaim := { program := "ytofmngfmoagenaadoor", sum := "de8d60cc15d4c8830a1f256d1dce1834d19063ca7dc6298152b5e454c346f547", func := "stockyard/stockyardlaw03.PatternFormats", spec := "patternFormats", inPlace := ["internal/bytealg.CountString", "internal/bytealg.IndexByteString", "internal/bytealg.IndexString", "internal/abi.NoEscape", "internal/bytealg.MakeNoZero"], named := ["unicode/utf8.first", "unicode/utf8.acceptRanges", "internal/bytealg.MaxLen"], apart := false, laid := [("unicode/utf8.acceptRanges", laid_unicode_utf8_acceptRanges), ("unicode/utf8.first", laid_unicode_utf8_first)], narrowed := true }
def PatternFormatsUptoSaid : Prop := patternFormatsUptoRow.holds Tryd.pinned (OpenSpec.upto patternFormatsSpec)

/-- 'stockyardlaw03.PatternOutside', WHERE WHAT IT READS IS OF BULK AT MOST 1048576: true; the input reads as it did. -/
def patternOutsideUptoRow : OpenClaim := { program := "ytofmngfmoagenaadoor", sum := "de8d60cc15d4c8830a1f256d1dce1834d19063ca7dc6298152b5e454c346f547", func := "stockyard/stockyardlaw03.PatternOutside", spec := "patternOutside", inPlace := ["internal/bytealg.CountString", "internal/bytealg.IndexByteString", "internal/bytealg.IndexString", "internal/abi.NoEscape", "internal/bytealg.MakeNoZero"], named := ["unicode/utf8.first", "unicode/utf8.acceptRanges", "internal/bytealg.MaxLen"], apart := false, laid := [("unicode/utf8.acceptRanges", laid_unicode_utf8_acceptRanges), ("unicode/utf8.first", laid_unicode_utf8_first)], narrowed := true }
def PatternOutsideUptoSaid : Prop := patternOutsideUptoRow.holds Tryd.pinned (OpenSpec.upto patternOutsideSpec)

/-- 'stockyardlaw03.PatternWithins', WHERE WHAT IT READS IS OF BULK AT MOST 1048576: true; the input reads as it did. -/
def patternWithinsUptoRow : OpenClaim := { program := "ytofmngfmoagenaadoor", sum := "de8d60cc15d4c8830a1f256d1dce1834d19063ca7dc6298152b5e454c346f547", func := "stockyard/stockyardlaw03.PatternWithins", spec := "patternWithins", inPlace := ["internal/bytealg.CountString", "internal/bytealg.IndexByteString", "internal/bytealg.IndexString", "internal/abi.NoEscape", "internal/bytealg.MakeNoZero"], named := ["unicode/utf8.first", "unicode/utf8.acceptRanges", "internal/bytealg.MaxLen"], apart := false, laid := [("unicode/utf8.acceptRanges", laid_unicode_utf8_acceptRanges), ("unicode/utf8.first", laid_unicode_utf8_first)], narrowed := true }
def PatternWithinsUptoSaid : Prop := patternWithinsUptoRow.holds Tryd.pinned (OpenSpec.upto patternWithinsSpec)

/-- 'stockyardlaw03.PatternLooks', WHERE WHAT IT READS IS OF BULK AT MOST 1048576: true; the input reads as it did. -/
def patternLooksUptoRow : OpenClaim := { program := "ytofmngfmoagenaadoor", sum := "de8d60cc15d4c8830a1f256d1dce1834d19063ca7dc6298152b5e454c346f547", func := "stockyard/stockyardlaw03.PatternLooks", spec := "patternLooks", inPlace := ["internal/bytealg.CountString", "internal/bytealg.IndexByteString", "internal/bytealg.IndexString", "internal/abi.NoEscape", "internal/bytealg.MakeNoZero"], unfollowed := true, recurses := true, named := ["unicode/utf8.first", "unicode/utf8.acceptRanges", "internal/bytealg.MaxLen"], apart := false, laid := [("unicode/utf8.acceptRanges", laid_unicode_utf8_acceptRanges), ("unicode/utf8.first", laid_unicode_utf8_first)], narrowed := true }
def PatternLooksUptoSaid : Prop := patternLooksUptoRow.holds Tryd.pinned (OpenSpec.upto patternLooksSpec)

/-- 'stockyardlaw03.PatternCaptures', WHERE WHAT IT READS IS OF BULK AT MOST 1048576: true; the input reads as it did. -/
def patternCapturesUptoRow : OpenClaim := { program := "ytofmngfmoagenaadoor", sum := "de8d60cc15d4c8830a1f256d1dce1834d19063ca7dc6298152b5e454c346f547", func := "stockyard/stockyardlaw03.PatternCaptures", spec := "patternCaptures", inPlace := ["internal/bytealg.CountString", "internal/bytealg.IndexByteString", "internal/bytealg.IndexString", "internal/abi.NoEscape", "internal/bytealg.MakeNoZero"], named := ["unicode/utf8.first", "unicode/utf8.acceptRanges", "internal/bytealg.MaxLen"], apart := false, laid := [("unicode/utf8.acceptRanges", laid_unicode_utf8_acceptRanges), ("unicode/utf8.first", laid_unicode_utf8_first)], narrowed := true }
def PatternCapturesUptoSaid : Prop := patternCapturesUptoRow.holds Tryd.pinned (OpenSpec.upto patternCapturesSpec)

/-- 'stockyardlaw03.PatternFills', WHERE WHAT IT READS IS OF BULK AT MOST 1048576: true; the input reads as it did. -/
def patternFillsUptoRow : OpenClaim := { program := "ytofmngfmoagenaadoor", sum := "de8d60cc15d4c8830a1f256d1dce1834d19063ca7dc6298152b5e454c346f547", func := "stockyard/stockyardlaw03.PatternFills", spec := "patternFills", inPlace := ["internal/bytealg.CountString", "internal/bytealg.IndexByteString", "internal/bytealg.IndexString", "internal/abi.NoEscape", "internal/bytealg.MakeNoZero"], named := ["unicode/utf8.first", "unicode/utf8.acceptRanges", "internal/bytealg.MaxLen"], apart := false, laid := [("unicode/utf8.acceptRanges", laid_unicode_utf8_acceptRanges), ("unicode/utf8.first", laid_unicode_utf8_first)], narrowed := true }
def PatternFillsUptoSaid : Prop := patternFillsUptoRow.holds Tryd.pinned (OpenSpec.upto patternFillsSpec)

/-- 'stockyardlaw03.PatternSubstitutes', WHERE WHAT IT READS IS OF BULK AT MOST 1048576: true; the input reads as it did. -/
def patternSubstitutesUptoRow : OpenClaim := { program := "ytofmngfmoagenaadoor", sum := "de8d60cc15d4c8830a1f256d1dce1834d19063ca7dc6298152b5e454c346f547", func := "stockyard/stockyardlaw03.PatternSubstitutes", spec := "patternSubstitutes", inPlace := ["internal/bytealg.CountString", "internal/bytealg.IndexByteString", "internal/bytealg.IndexString", "internal/abi.NoEscape", "internal/bytealg.MakeNoZero"], named := ["unicode/utf8.first", "unicode/utf8.acceptRanges", "internal/bytealg.MaxLen"], apart := false, laid := [("unicode/utf8.acceptRanges", laid_unicode_utf8_acceptRanges), ("unicode/utf8.first", laid_unicode_utf8_first)], narrowed := true }
def PatternSubstitutesUptoSaid : Prop := patternSubstitutesUptoRow.holds Tryd.pinned (OpenSpec.upto patternSubstitutesSpec)

/-- 'stockyardlaw03.PatternMeets', WHERE WHAT IT READS IS OF BULK AT MOST 1048576: true; the input reads as it did. -/
def patternMeetsUptoRow : OpenClaim := { program := "ytofmngfmoagenaadoor", sum := "de8d60cc15d4c8830a1f256d1dce1834d19063ca7dc6298152b5e454c346f547", func := "stockyard/stockyardlaw03.PatternMeets", spec := "patternMeets", inPlace := ["internal/bytealg.CountString", "internal/bytealg.IndexByteString", "internal/bytealg.IndexString", "internal/abi.NoEscape", "internal/bytealg.MakeNoZero"], named := ["unicode/utf8.first", "unicode/utf8.acceptRanges", "internal/bytealg.MaxLen"], apart := false, laid := [("unicode/utf8.acceptRanges", laid_unicode_utf8_acceptRanges), ("unicode/utf8.first", laid_unicode_utf8_first)], narrowed := true }
def PatternMeetsUptoSaid : Prop := patternMeetsUptoRow.holds Tryd.pinned (OpenSpec.upto patternMeetsSpec)

/-- 'stockyardlaw03.PatternBinds', WHERE WHAT IT READS IS OF BULK AT MOST 1048576: true; the input reads as it did. -/
def patternBindsUptoRow : OpenClaim := { program := "ytofmngfmoagenaadoor", sum := "de8d60cc15d4c8830a1f256d1dce1834d19063ca7dc6298152b5e454c346f547", func := "stockyard/stockyardlaw03.PatternBinds", spec := "patternBinds", inPlace := ["internal/bytealg.CountString", "internal/bytealg.IndexByteString", "internal/bytealg.IndexString", "internal/abi.NoEscape", "internal/bytealg.MakeNoZero"], named := ["unicode/utf8.first", "unicode/utf8.acceptRanges", "internal/bytealg.MaxLen"], apart := false, laid := [("unicode/utf8.acceptRanges", laid_unicode_utf8_acceptRanges), ("unicode/utf8.first", laid_unicode_utf8_first)], narrowed := true }
def PatternBindsUptoSaid : Prop := patternBindsUptoRow.holds Tryd.pinned (OpenSpec.upto patternBindsSpec)

/-- 'stockyardlaw03.PatternMeans', WHERE WHAT IT READS IS OF BULK AT MOST 1048576: true; the input reads as it did. -/
def patternMeansUptoRow : OpenClaim := { program := "ytofmngfmoagenaadoor", sum := "de8d60cc15d4c8830a1f256d1dce1834d19063ca7dc6298152b5e454c346f547", func := "stockyard/stockyardlaw03.PatternMeans", spec := "patternMeans", inPlace := ["internal/bytealg.CountString", "internal/bytealg.IndexByteString", "internal/bytealg.IndexString", "internal/abi.NoEscape", "internal/bytealg.MakeNoZero"], named := ["unicode/utf8.first", "unicode/utf8.acceptRanges", "internal/bytealg.MaxLen"], apart := false, laid := [("unicode/utf8.acceptRanges", laid_unicode_utf8_acceptRanges), ("unicode/utf8.first", laid_unicode_utf8_first)], narrowed := true }
def PatternMeansUptoSaid : Prop := patternMeansUptoRow.holds Tryd.pinned (OpenSpec.upto patternMeansSpec)

/-- 'stockyardlaw03.PatternLaminar', WHERE WHAT IT READS IS OF BULK AT MOST 1048576: true; the input reads as it did. -/
def patternLaminarUptoRow : OpenClaim := { program := "ytofmngfmoagenaadoor", sum := "de8d60cc15d4c8830a1f256d1dce1834d19063ca7dc6298152b5e454c346f547", func := "stockyard/stockyardlaw03.PatternLaminar", spec := "patternLaminar", inPlace := ["internal/bytealg.CountString", "internal/bytealg.IndexByteString", "internal/bytealg.IndexString", "internal/abi.NoEscape", "internal/bytealg.MakeNoZero"], named := ["unicode/utf8.first", "unicode/utf8.acceptRanges", "internal/bytealg.MaxLen"], apart := false, laid := [("unicode/utf8.acceptRanges", laid_unicode_utf8_acceptRanges), ("unicode/utf8.first", laid_unicode_utf8_first)], narrowed := true }
def PatternLaminarUptoSaid : Prop := patternLaminarUptoRow.holds Tryd.pinned (OpenSpec.upto patternLaminarSpec)

/-- 'stockyardlaw03.PatternNarrows', WHERE WHAT IT READS IS OF BULK AT MOST 1048576: true; the input reads as it did. -/
def patternNarrowsUptoRow : OpenClaim := { program := "ytofmngfmoagenaadoor", sum := "de8d60cc15d4c8830a1f256d1dce1834d19063ca7dc6298152b5e454c346f547", func := "stockyard/stockyardlaw03.PatternNarrows", spec := "patternNarrows", inPlace := ["internal/bytealg.CountString", "internal/bytealg.IndexByteString", "internal/bytealg.IndexString", "internal/abi.NoEscape", "internal/bytealg.MakeNoZero"], named := ["unicode/utf8.first", "unicode/utf8.acceptRanges", "internal/bytealg.MaxLen"], apart := false, laid := [("unicode/utf8.acceptRanges", laid_unicode_utf8_acceptRanges), ("unicode/utf8.first", laid_unicode_utf8_first)], narrowed := true }
def PatternNarrowsUptoSaid : Prop := patternNarrowsUptoRow.holds Tryd.pinned (OpenSpec.upto patternNarrowsSpec)

end Rows
end Go.Proofs.YtofmngfmoagenaaDoor
