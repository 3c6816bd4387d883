/-
  No cell of these rows narrows 'for every input' (looked for: loops, veiled, ifaces, maps, wideKeys, modest, calm, conditions, laid).
  DERIVED. THE GIVEN ROWS OF THIS SEAT. 7 by the template 'for every input the law returns true; each argument reads behind the call as it read before'; 0 by the template 'total and deterministic' (their statements: YtfhkmmicdbblnaaTotals.lean).
  GIVEN WITH THE SEED: the statements are not yours to turn. If you find one false, say at which input.
  Laid BY PROGRAM, IN A SANDBOX (cutbox-rows.mjs): the forced cells as the released guide's own fill.sh prints them over the translation dc50b392b3cc6c62… (all of the seat's roots in one cut). By AI agents, Wed Nov 11 2026. No macro, syntax, notation, axiom, sorry.
-/
import Derived.Test.YtfhkmmicdbblnaaChecked
import GoSem.Claim
import GoSem.ClaimJoined
import GoSem.ClaimMapViews
import Derived.JoinedTies
import Derived.KernelRfl
namespace Go.Proofs.Ytfhkmmicdbblnaa
/- THE CELL 'sum', in the pinned program and in every row, IS THE sha256 OF THE DUMP (.gsa) THAT YtfhkmmicdbblnaaProg.lean LOADS. Nothing in Lean hashes anything: it is a label: what it is worth is what the hold of that sum in a sandbox is worth. -/
noncomputable def Try.pinned : Pinned := { name := "ytfhkmmicdbblnaa", sum := "dc50b392b3cc6c624aa57e1c5cbf8973b89c964f88c13771469e13ce9f521ee7", checked := Try.checked }
namespace Rows
def none {H : Type} : Left H := { results := [], args := [] }

/-- 'stockyardlaw16.MergeExchange': WHATEVER THE INPUT: true; the input reads as it did. -/
def mergeExchangeSpec : ChangeSpec := { name := "mergeExchange", fn := fun _ => fun
  | [d1, d2, d3] => { results := [.lit (.bool true)], args := [d1, d2, d3] }
  | _ => none }
def mergeExchangeRow : OpenClaim := { program := "ytfhkmmicdbblnaa", sum := "dc50b392b3cc6c624aa57e1c5cbf8973b89c964f88c13771469e13ce9f521ee7", func := "stockyard/stockyardlaw16.MergeExchange", spec := "mergeExchange", inPlace := ["internal/bytealg.CountString", "internal/bytealg.IndexByteString", "internal/bytealg.IndexString"], named := ["internal/bytealg.MaxLen"], apart := false }
def MergeExchangeSaid : Prop := mergeExchangeRow.holds Try.pinned (OpenSpec.ofChange mergeExchangeSpec)

/-- ITS FALSE NEIGHBOUR: 'it returns false'. Refute it at one input. -/
def mergeExchangeWrong : ChangeSpec := { name := "mergeExchange", fn := fun _ => fun
  | [d1, d2, d3] => { results := [.lit (.bool false)], args := [d1, d2, d3] }
  | _ => none }
def MergeExchangeWrongFalsely : Prop := mergeExchangeRow.holds Try.pinned (OpenSpec.ofChange mergeExchangeWrong)

/-- 'stockyardlaw16.MergeTexts': WHATEVER THE INPUT: true; the input reads as it did. -/
def mergeTextsSpec : ChangeSpec := { name := "mergeTexts", fn := fun _ => fun
  | [d] => { results := [.lit (.bool true)], args := [d] }
  | _ => none }
def mergeTextsRow : OpenClaim := { program := "ytfhkmmicdbblnaa", sum := "dc50b392b3cc6c624aa57e1c5cbf8973b89c964f88c13771469e13ce9f521ee7", func := "stockyard/stockyardlaw16.MergeTexts", spec := "mergeTexts", inPlace := ["internal/bytealg.IndexByteString", "internal/bytealg.CountString", "internal/bytealg.IndexString", "internal/abi.NoEscape", "internal/bytealg.MakeNoZero"], named := ["internal/bytealg.MaxLen"], apart := false }
def MergeTextsSaid : Prop := mergeTextsRow.holds Try.pinned (OpenSpec.ofChange mergeTextsSpec)

/-- ITS FALSE NEIGHBOUR: 'it returns false'. Refute it at one input. -/
def mergeTextsWrong : ChangeSpec := { name := "mergeTexts", fn := fun _ => fun
  | [d] => { results := [.lit (.bool false)], args := [d] }
  | _ => none }
def MergeTextsWrongFalsely : Prop := mergeTextsRow.holds Try.pinned (OpenSpec.ofChange mergeTextsWrong)

/-- 'stockyardlaw16.MergeUnchanged': WHATEVER THE INPUT: true; the input reads as it did. -/
def mergeUnchangedSpec : ChangeSpec := { name := "mergeUnchanged", fn := fun _ => fun
  | [d1, d2] => { results := [.lit (.bool true)], args := [d1, d2] }
  | _ => none }
def mergeUnchangedRow : OpenClaim := { program := "ytfhkmmicdbblnaa", sum := "dc50b392b3cc6c624aa57e1c5cbf8973b89c964f88c13771469e13ce9f521ee7", func := "stockyard/stockyardlaw16.MergeUnchanged", spec := "mergeUnchanged", inPlace := ["internal/bytealg.CountString", "internal/bytealg.IndexByteString", "internal/bytealg.IndexString", "internal/abi.NoEscape"], named := ["internal/bytealg.MaxLen"], apart := false }
def MergeUnchangedSaid : Prop := mergeUnchangedRow.holds Try.pinned (OpenSpec.ofChange mergeUnchangedSpec)

/-- ITS FALSE NEIGHBOUR: 'it returns false'. Refute it at one input. -/
def mergeUnchangedWrong : ChangeSpec := { name := "mergeUnchanged", fn := fun _ => fun
  | [d1, d2] => { results := [.lit (.bool false)], args := [d1, d2] }
  | _ => none }
def MergeUnchangedWrongFalsely : Prop := mergeUnchangedRow.holds Try.pinned (OpenSpec.ofChange mergeUnchangedWrong)

/-- 'stockyardlaw16.MergeBack': WHATEVER THE INPUT: true; the input reads as it did. -/
def mergeBackSpec : ChangeSpec := { name := "mergeBack", fn := fun _ => fun
  | [d1, d2] => { results := [.lit (.bool true)], args := [d1, d2] }
  | _ => none }
def mergeBackRow : OpenClaim := { program := "ytfhkmmicdbblnaa", sum := "dc50b392b3cc6c624aa57e1c5cbf8973b89c964f88c13771469e13ce9f521ee7", func := "stockyard/stockyardlaw16.MergeBack", spec := "mergeBack", inPlace := ["internal/bytealg.CountString", "internal/bytealg.IndexByteString", "internal/bytealg.IndexString", "internal/abi.NoEscape", "internal/bytealg.MakeNoZero"], named := ["internal/bytealg.MaxLen"], apart := false }
def MergeBackSaid : Prop := mergeBackRow.holds Try.pinned (OpenSpec.ofChange mergeBackSpec)

/-- ITS FALSE NEIGHBOUR: 'it returns false'. Refute it at one input. -/
def mergeBackWrong : ChangeSpec := { name := "mergeBack", fn := fun _ => fun
  | [d1, d2] => { results := [.lit (.bool false)], args := [d1, d2] }
  | _ => none }
def MergeBackWrongFalsely : Prop := mergeBackRow.holds Try.pinned (OpenSpec.ofChange mergeBackWrong)

/-- 'stockyardlaw16.MergeShortest': WHATEVER THE INPUT: true; the input reads as it did. -/
def mergeShortestSpec : ChangeSpec := { name := "mergeShortest", fn := fun _ => fun
  | [d1, d2] => { results := [.lit (.bool true)], args := [d1, d2] }
  | _ => none }
def mergeShortestRow : OpenClaim := { program := "ytfhkmmicdbblnaa", sum := "dc50b392b3cc6c624aa57e1c5cbf8973b89c964f88c13771469e13ce9f521ee7", func := "stockyard/stockyardlaw16.MergeShortest", spec := "mergeShortest", inPlace := ["internal/bytealg.CountString", "internal/bytealg.IndexByteString", "internal/bytealg.IndexString", "internal/abi.NoEscape", "internal/bytealg.MakeNoZero"], named := ["internal/bytealg.MaxLen"], apart := false }
def MergeShortestSaid : Prop := mergeShortestRow.holds Try.pinned (OpenSpec.ofChange mergeShortestSpec)

/-- ITS FALSE NEIGHBOUR: 'it returns false'. Refute it at one input. -/
def mergeShortestWrong : ChangeSpec := { name := "mergeShortest", fn := fun _ => fun
  | [d1, d2] => { results := [.lit (.bool false)], args := [d1, d2] }
  | _ => none }
def MergeShortestWrongFalsely : Prop := mergeShortestRow.holds Try.pinned (OpenSpec.ofChange mergeShortestWrong)

/-- 'stockyardlaw16.MergePieces': WHATEVER THE INPUT: true; the input reads as it did. -/
def mergePiecesSpec : ChangeSpec := { name := "mergePieces", fn := fun _ => fun
  | [d1, d2, d3] => { results := [.lit (.bool true)], args := [d1, d2, d3] }
  | _ => none }
def mergePiecesRow : OpenClaim := { program := "ytfhkmmicdbblnaa", sum := "dc50b392b3cc6c624aa57e1c5cbf8973b89c964f88c13771469e13ce9f521ee7", func := "stockyard/stockyardlaw16.MergePieces", spec := "mergePieces", inPlace := ["internal/bytealg.CountString", "internal/bytealg.IndexByteString", "internal/bytealg.IndexString", "internal/abi.NoEscape", "internal/bytealg.MakeNoZero"], named := ["internal/bytealg.MaxLen"], apart := false }
def MergePiecesSaid : Prop := mergePiecesRow.holds Try.pinned (OpenSpec.ofChange mergePiecesSpec)

/-- ITS FALSE NEIGHBOUR: 'it returns false'. Refute it at one input. -/
def mergePiecesWrong : ChangeSpec := { name := "mergePieces", fn := fun _ => fun
  | [d1, d2, d3] => { results := [.lit (.bool false)], args := [d1, d2, d3] }
  | _ => none }
def MergePiecesWrongFalsely : Prop := mergePiecesRow.holds Try.pinned (OpenSpec.ofChange mergePiecesWrong)

/-- 'stockyardlaw16.MergeOneChange': WHATEVER THE INPUT: true; the input reads as it did. -/
def mergeOneChangeSpec : ChangeSpec := { name := "mergeOneChange", fn := fun _ => fun
  | [d1, d2, d3, d4] => { results := [.lit (.bool true)], args := [d1, d2, d3, d4] }
  | _ => none }
def mergeOneChangeRow : OpenClaim := { program := "ytfhkmmicdbblnaa", sum := "dc50b392b3cc6c624aa57e1c5cbf8973b89c964f88c13771469e13ce9f521ee7", func := "stockyard/stockyardlaw16.MergeOneChange", spec := "mergeOneChange", inPlace := ["internal/bytealg.IndexByteString", "internal/bytealg.IndexString", "internal/abi.NoEscape", "internal/bytealg.MakeNoZero"], named := ["internal/bytealg.MaxLen"], apart := false }
def MergeOneChangeSaid : Prop := mergeOneChangeRow.holds Try.pinned (OpenSpec.ofChange mergeOneChangeSpec)

/-- ITS FALSE NEIGHBOUR: 'it returns false'. Refute it at one input. -/
def mergeOneChangeWrong : ChangeSpec := { name := "mergeOneChange", fn := fun _ => fun
  | [d1, d2, d3, d4] => { results := [.lit (.bool false)], args := [d1, d2, d3, d4] }
  | _ => none }
def MergeOneChangeWrongFalsely : Prop := mergeOneChangeRow.holds Try.pinned (OpenSpec.ofChange mergeOneChangeWrong)

/- THE SECOND FORM. 'bulk': how many values and letters a reading holds, each counted each time it is reached (what is shared counts as often as it is met; a slice's spare places count too). A statement '..UptoSaid' is the law's where the arguments, and the package variables that the reading takes, are together of bulk at most 1048576: NARROWER than '..Said'. Prove '..Said' where nothing that the law and all that it calls make is longer than what came in: it says more and counts as full. Else prove '..UptoSaid'. A law counts once. -/
mutual
def uptoBulk {H : Type} : DataW H → Nat
  | .lit (.string bytes) => bytes.length + 1
  | .lit _ => 1
  | .nil => 1
  | .ptr d => uptoBulk d + 1
  | .slice elems spare => uptoBulkAll elems + uptoBulkAll spare + 1
  | .agg parts => uptoBulkAll parts + 1
  | .iface _ d => uptoBulk d + 1
  | .map entries => uptoBulkEntries entries + 1
  | .held _ => 1
def uptoBulkAll {H : Type} : List (DataW H) → Nat
  | [] => 0
  | d :: r => uptoBulk d + uptoBulkAll r
def uptoBulkEntries {H : Type} : List (Lit × DataW H) → Nat
  | [] => 0
  | x :: r => uptoBulkEntry x + uptoBulkEntries r
def uptoBulkEntry {H : Type} : Lit × DataW H → Nat
  | (.string bytes, d) => bytes.length + uptoBulk d + 1
  | (_, d) => uptoBulk d + 1
 end
def uptoSmall : (H : Type) → List (DataW H) → Bool := fun _ ds => decide (uptoBulkAll ds ≤ 1048576)
def OpenSpec.upto (s : _root_.Go.ChangeSpec) : _root_.Go.OpenSpec := { _root_.Go.OpenSpec.ofChange s with cond := some uptoSmall }

/-- 'stockyardlaw16.MergeExchange', WHERE WHAT IT READS IS OF BULK AT MOST 1048576: true; the input reads as it did. -/
def mergeExchangeUptoRow : OpenClaim := { program := "ytfhkmmicdbblnaa", sum := "dc50b392b3cc6c624aa57e1c5cbf8973b89c964f88c13771469e13ce9f521ee7", func := "stockyard/stockyardlaw16.MergeExchange", spec := "mergeExchange", inPlace := ["internal/bytealg.CountString", "internal/bytealg.IndexByteString", "internal/bytealg.IndexString"], named := ["internal/bytealg.MaxLen"], apart := false, narrowed := true }
def MergeExchangeUptoSaid : Prop := mergeExchangeUptoRow.holds Try.pinned (OpenSpec.upto mergeExchangeSpec)

/-- 'stockyardlaw16.MergeTexts', WHERE WHAT IT READS IS OF BULK AT MOST 1048576: true; the input reads as it did. -/
def mergeTextsUptoRow : OpenClaim := { program := "ytfhkmmicdbblnaa", sum := "dc50b392b3cc6c624aa57e1c5cbf8973b89c964f88c13771469e13ce9f521ee7", func := "stockyard/stockyardlaw16.MergeTexts", spec := "mergeTexts", inPlace := ["internal/bytealg.IndexByteString", "internal/bytealg.CountString", "internal/bytealg.IndexString", "internal/abi.NoEscape", "internal/bytealg.MakeNoZero"], named := ["internal/bytealg.MaxLen"], apart := false, narrowed := true }
def MergeTextsUptoSaid : Prop := mergeTextsUptoRow.holds Try.pinned (OpenSpec.upto mergeTextsSpec)

/-- 'stockyardlaw16.MergeUnchanged', WHERE WHAT IT READS IS OF BULK AT MOST 1048576: true; the input reads as it did. -/
def mergeUnchangedUptoRow : OpenClaim := { program := "ytfhkmmicdbblnaa", sum := "dc50b392b3cc6c624aa57e1c5cbf8973b89c964f88c13771469e13ce9f521ee7", func := "stockyard/stockyardlaw16.MergeUnchanged", spec := "mergeUnchanged", inPlace := ["internal/bytealg.CountString", "internal/bytealg.IndexByteString", "internal/bytealg.IndexString", "internal/abi.NoEscape"], named := ["internal/bytealg.MaxLen"], apart := false, narrowed := true }
def MergeUnchangedUptoSaid : Prop := mergeUnchangedUptoRow.holds Try.pinned (OpenSpec.upto mergeUnchangedSpec)

/-- 'stockyardlaw16.MergeBack', WHERE WHAT IT READS IS OF BULK AT MOST 1048576: true; the input reads as it did. -/
def mergeBackUptoRow : OpenClaim := { program := "ytfhkmmicdbblnaa", sum := "dc50b392b3cc6c624aa57e1c5cbf8973b89c964f88c13771469e13ce9f521ee7", func := "stockyard/stockyardlaw16.MergeBack", spec := "mergeBack", inPlace := ["internal/bytealg.CountString", "internal/bytealg.IndexByteString", "internal/bytealg.IndexString", "internal/abi.NoEscape", "internal/bytealg.MakeNoZero"], named := ["internal/bytealg.MaxLen"], apart := false, narrowed := true }
def MergeBackUptoSaid : Prop := mergeBackUptoRow.holds Try.pinned (OpenSpec.upto mergeBackSpec)

/-- 'stockyardlaw16.MergeShortest', WHERE WHAT IT READS IS OF BULK AT MOST 1048576: true; the input reads as it did. -/
def mergeShortestUptoRow : OpenClaim := { program := "ytfhkmmicdbblnaa", sum := "dc50b392b3cc6c624aa57e1c5cbf8973b89c964f88c13771469e13ce9f521ee7", func := "stockyard/stockyardlaw16.MergeShortest", spec := "mergeShortest", inPlace := ["internal/bytealg.CountString", "internal/bytealg.IndexByteString", "internal/bytealg.IndexString", "internal/abi.NoEscape", "internal/bytealg.MakeNoZero"], named := ["internal/bytealg.MaxLen"], apart := false, narrowed := true }
def MergeShortestUptoSaid : Prop := mergeShortestUptoRow.holds Try.pinned (OpenSpec.upto mergeShortestSpec)

/-- 'stockyardlaw16.MergePieces', WHERE WHAT IT READS IS OF BULK AT MOST 1048576: true; the input reads as it did. -/
def mergePiecesUptoRow : OpenClaim := { program := "ytfhkmmicdbblnaa", sum := "dc50b392b3cc6c624aa57e1c5cbf8973b89c964f88c13771469e13ce9f521ee7", func := "stockyard/stockyardlaw16.MergePieces", spec := "mergePieces", inPlace := ["internal/bytealg.CountString", "internal/bytealg.IndexByteString", "internal/bytealg.IndexString", "internal/abi.NoEscape", "internal/bytealg.MakeNoZero"], named := ["internal/bytealg.MaxLen"], apart := false, narrowed := true }
def MergePiecesUptoSaid : Prop := mergePiecesUptoRow.holds Try.pinned (OpenSpec.upto mergePiecesSpec)

/-- 'stockyardlaw16.MergeOneChange', WHERE WHAT IT READS IS OF BULK AT MOST 1048576: true; the input reads as it did. -/
def mergeOneChangeUptoRow : OpenClaim := { program := "ytfhkmmicdbblnaa", sum := "dc50b392b3cc6c624aa57e1c5cbf8973b89c964f88c13771469e13ce9f521ee7", func := "stockyard/stockyardlaw16.MergeOneChange", spec := "mergeOneChange", inPlace := ["internal/bytealg.IndexByteString", "internal/bytealg.IndexString", "internal/abi.NoEscape", "internal/bytealg.MakeNoZero"], named := ["internal/bytealg.MaxLen"], apart := false, narrowed := true }
def MergeOneChangeUptoSaid : Prop := mergeOneChangeUptoRow.holds Try.pinned (OpenSpec.upto mergeOneChangeSpec)

end Rows
end Go.Proofs.Ytfhkmmicdbblnaa
