/-
  DERIVED. GIVEN WITH THE SEED: THE CARDS: each row of YtfhkmmicdbblnaaDoorRows.lean that lists a variable, with what it lists TIED to the program's text (the seventh form; the later family's looks); each row that meets fmt, with fmt's text TOLD by the authors' own Lean function (tested against real Go, not proved from fmt's source: count such statements apart). THE CARD IS WHAT COUNTS. Prove the row's statement (the work); the ties are given (YtfhkmmicdbblnaaDoorTie.lean); close each card by the builder's one call (the guide's Derived/Test/ToyasCard.lean, 'card_holds'). Laid BY PROGRAM, IN A SANDBOX (cutbox-door.mjs). By AI agents, Wed Nov 11 2026. No macro, syntax, notation, axiom, sorry.
-/
import Derived.Test.YtfhkmmicdbblnaaDoorRows
import GoSem.ClaimSeven
namespace Go.Proofs.YtfhkmmicdbblnaaDoor
namespace Rows

/-- THE TIED CARD OF 'stockyardlaw16.MergeDiffs'. -/
def mergeDiffsCard : Claim7 := { stood := { row := mergeDiffsRow, standIns := [], harness := (true, "aac63d6f32cd69c37f81f1bc96e4249cc636a36ec8799eaca236485997168862"), looks := false }, kinds := [], alts := [], laidByText := true, laidKinds := [.data, .pinned], laidTests := true, laidLooks := .later }
def MergeDiffsCardSaid : Prop := Claim7.holds Tryd.pinned (.plain (OpenSpec.ofChange mergeDiffsSpec)) mergeDiffsCard

/-- THE TIED CARD OF 'stockyardlaw16.MergeLines'. -/
def mergeLinesCard : Claim7 := { stood := { row := mergeLinesRow, standIns := [], harness := (true, "aac63d6f32cd69c37f81f1bc96e4249cc636a36ec8799eaca236485997168862"), looks := false }, kinds := [], alts := [], laidByText := true, laidKinds := [.data, .pinned], laidTests := true, laidLooks := .later }
def MergeLinesCardSaid : Prop := Claim7.holds Tryd.pinned (.plain (OpenSpec.ofChange mergeLinesSpec)) mergeLinesCard

/-- THE TIED CARD OF 'stockyardlaw16.MergeApplies'. -/
def mergeAppliesCard : Claim7 := { stood := { row := mergeAppliesRow, standIns := [], harness := (true, "aac63d6f32cd69c37f81f1bc96e4249cc636a36ec8799eaca236485997168862"), looks := false }, kinds := [], alts := [], laidByText := true, laidKinds := [.data, .pinned], laidTests := true, laidLooks := .later }
def MergeAppliesCardSaid : Prop := Claim7.holds Tryd.pinned (.plain (OpenSpec.ofChange mergeAppliesSpec)) mergeAppliesCard

/-- THE TIED CARD OF 'stockyardlaw16.MergeMerges'. -/
def mergeMergesCard : Claim7 := { stood := { row := mergeMergesRow, standIns := [], harness := (true, "aac63d6f32cd69c37f81f1bc96e4249cc636a36ec8799eaca236485997168862"), looks := false }, kinds := [], alts := [], laidByText := true, laidKinds := [.data, .pinned], laidTests := true, laidLooks := .later }
def MergeMergesCardSaid : Prop := Claim7.holds Tryd.pinned (.plain (OpenSpec.ofChange mergeMergesSpec)) mergeMergesCard

/-- THE SECOND FORM's CARD OF 'stockyardlaw16.MergeDiffs'. -/
def mergeDiffsUptoCard : Claim7 := { stood := { row := mergeDiffsUptoRow, standIns := [], harness := (true, "aac63d6f32cd69c37f81f1bc96e4249cc636a36ec8799eaca236485997168862"), looks := false }, kinds := [], alts := [], laidByText := true, laidKinds := [.data, .pinned], laidTests := true, laidLooks := .later }
def MergeDiffsUptoCardSaid : Prop := Claim7.holds Tryd.pinned (.plain (OpenSpec.upto mergeDiffsSpec)) mergeDiffsUptoCard

/-- THE SECOND FORM's CARD OF 'stockyardlaw16.MergeLines'. -/
def mergeLinesUptoCard : Claim7 := { stood := { row := mergeLinesUptoRow, standIns := [], harness := (true, "aac63d6f32cd69c37f81f1bc96e4249cc636a36ec8799eaca236485997168862"), looks := false }, kinds := [], alts := [], laidByText := true, laidKinds := [.data, .pinned], laidTests := true, laidLooks := .later }
def MergeLinesUptoCardSaid : Prop := Claim7.holds Tryd.pinned (.plain (OpenSpec.upto mergeLinesSpec)) mergeLinesUptoCard

/-- THE SECOND FORM's CARD OF 'stockyardlaw16.MergeApplies'. -/
def mergeAppliesUptoCard : Claim7 := { stood := { row := mergeAppliesUptoRow, standIns := [], harness := (true, "aac63d6f32cd69c37f81f1bc96e4249cc636a36ec8799eaca236485997168862"), looks := false }, kinds := [], alts := [], laidByText := true, laidKinds := [.data, .pinned], laidTests := true, laidLooks := .later }
def MergeAppliesUptoCardSaid : Prop := Claim7.holds Tryd.pinned (.plain (OpenSpec.upto mergeAppliesSpec)) mergeAppliesUptoCard

/-- THE SECOND FORM's CARD OF 'stockyardlaw16.MergeMerges'. -/
def mergeMergesUptoCard : Claim7 := { stood := { row := mergeMergesUptoRow, standIns := [], harness := (true, "aac63d6f32cd69c37f81f1bc96e4249cc636a36ec8799eaca236485997168862"), looks := false }, kinds := [], alts := [], laidByText := true, laidKinds := [.data, .pinned], laidTests := true, laidLooks := .later }
def MergeMergesUptoCardSaid : Prop := Claim7.holds Tryd.pinned (.plain (OpenSpec.upto mergeMergesSpec)) mergeMergesUptoCard
end Rows
end Go.Proofs.YtfhkmmicdbblnaaDoor
