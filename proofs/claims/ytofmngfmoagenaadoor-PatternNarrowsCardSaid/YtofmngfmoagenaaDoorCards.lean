/-
  DERIVED. GIVEN WITH THE SEED: THE CARDS: each row of YtofmngfmoagenaaDoorRows.lean that lists a variable, with what it lists TIED to the program's text (the seventh form; the later family's looks); each row that meets fmt, with fmt's text TOLD by the authors' own Lean function (tested against real Go, not proved from fmt's source: count such statements apart). THE CARD IS WHAT COUNTS. Prove the row's statement (the work); the ties are given (YtofmngfmoagenaaDoorTie.lean); close each card by the builder's one call (the guide's Derived/Test/ToyasCard.lean, 'card_holds'). Laid BY PROGRAM, IN A SANDBOX (cutbox-door.mjs). By AI agents, Wed Nov 11 2026. No macro, syntax, notation, axiom, sorry.
-/
import Derived.Test.YtofmngfmoagenaaDoorRows
import GoSem.ClaimSeven
namespace Go.Proofs.YtofmngfmoagenaaDoor
namespace Rows

/-- THE TIED CARD OF 'stockyardlaw03.PatternParses'. -/
def patternParsesCard : Claim7 := { stood := { row := patternParsesRow, standIns := [], harness := (true, "9da44c2acb220236d5994f157b1fec911e78b59b84f824377c34e9240a15a2ab"), looks := false }, kinds := [], alts := [], laidByText := true, laidKinds := [.data, .pinned], laidTests := true, laidLooks := .later }
def PatternParsesCardSaid : Prop := Claim7.holds Tryd.pinned (.plain (OpenSpec.ofChange patternParsesSpec)) patternParsesCard

/-- THE TIED CARD OF 'stockyardlaw03.PatternMatches'. -/
def patternMatchesCard : Claim7 := { stood := { row := patternMatchesRow, standIns := [], harness := (true, "9da44c2acb220236d5994f157b1fec911e78b59b84f824377c34e9240a15a2ab"), looks := false }, kinds := [], alts := [], laidByText := true, laidKinds := [.data, .pinned], laidTests := true, laidLooks := .later }
def PatternMatchesCardSaid : Prop := Claim7.holds Tryd.pinned (.plain (OpenSpec.ofChange patternMatchesSpec)) patternMatchesCard

/-- THE TIED CARD OF 'stockyardlaw03.PatternBack'. -/
def patternBackCard : Claim7 := { stood := { row := patternBackRow, standIns := [], harness := (true, "9da44c2acb220236d5994f157b1fec911e78b59b84f824377c34e9240a15a2ab"), looks := false }, kinds := [], alts := [], laidByText := true, laidKinds := [.data, .pinned], laidTests := true, laidLooks := .later }
def PatternBackCardSaid : Prop := Claim7.holds Tryd.pinned (.plain (OpenSpec.ofChange patternBackSpec)) patternBackCard

/-- THE TIED CARD OF 'stockyardlaw03.PatternFormats'. -/
def patternFormatsCard : Claim7 := { stood := { row := patternFormatsRow, standIns := [], harness := (true, "9da44c2acb220236d5994f157b1fec911e78b59b84f824377c34e9240a15a2ab"), looks := false }, kinds := [], alts := [], laidByText := true, laidKinds := [.data, .pinned], laidTests := true, laidLooks := .later }
def PatternFormatsCardSaid : Prop := Claim7.holds Tryd.pinned (.plain (OpenSpec.ofChange patternFormatsSpec)) patternFormatsCard

/-- THE TIED CARD OF 'stockyardlaw03.PatternOutside'. -/
def patternOutsideCard : Claim7 := { stood := { row := patternOutsideRow, standIns := [], harness := (true, "9da44c2acb220236d5994f157b1fec911e78b59b84f824377c34e9240a15a2ab"), looks := false }, kinds := [], alts := [], laidByText := true, laidKinds := [.data, .pinned], laidTests := true, laidLooks := .later }
def PatternOutsideCardSaid : Prop := Claim7.holds Tryd.pinned (.plain (OpenSpec.ofChange patternOutsideSpec)) patternOutsideCard

/-- THE TIED CARD OF 'stockyardlaw03.PatternWithins'. -/
def patternWithinsCard : Claim7 := { stood := { row := patternWithinsRow, standIns := [], harness := (true, "9da44c2acb220236d5994f157b1fec911e78b59b84f824377c34e9240a15a2ab"), looks := false }, kinds := [], alts := [], laidByText := true, laidKinds := [.data, .pinned], laidTests := true, laidLooks := .later }
def PatternWithinsCardSaid : Prop := Claim7.holds Tryd.pinned (.plain (OpenSpec.ofChange patternWithinsSpec)) patternWithinsCard

/-- THE TIED CARD OF 'stockyardlaw03.PatternLooks'. -/
def patternLooksCard : Claim7 := { stood := { row := patternLooksRow, standIns := [], harness := (true, "9da44c2acb220236d5994f157b1fec911e78b59b84f824377c34e9240a15a2ab"), looks := false }, kinds := [], alts := [], laidByText := true, laidKinds := [.data, .pinned], laidTests := true, laidLooks := .later }
def PatternLooksCardSaid : Prop := Claim7.holds Tryd.pinned (.plain (OpenSpec.ofChange patternLooksSpec)) patternLooksCard

/-- THE TIED CARD OF 'stockyardlaw03.PatternCaptures'. -/
def patternCapturesCard : Claim7 := { stood := { row := patternCapturesRow, standIns := [], harness := (true, "9da44c2acb220236d5994f157b1fec911e78b59b84f824377c34e9240a15a2ab"), looks := false }, kinds := [], alts := [], laidByText := true, laidKinds := [.data, .pinned], laidTests := true, laidLooks := .later }
def PatternCapturesCardSaid : Prop := Claim7.holds Tryd.pinned (.plain (OpenSpec.ofChange patternCapturesSpec)) patternCapturesCard

/-- THE TIED CARD OF 'stockyardlaw03.PatternFills'. -/
def patternFillsCard : Claim7 := { stood := { row := patternFillsRow, standIns := [], harness := (true, "9da44c2acb220236d5994f157b1fec911e78b59b84f824377c34e9240a15a2ab"), looks := false }, kinds := [], alts := [], laidByText := true, laidKinds := [.data, .pinned], laidTests := true, laidLooks := .later }
def PatternFillsCardSaid : Prop := Claim7.holds Tryd.pinned (.plain (OpenSpec.ofChange patternFillsSpec)) patternFillsCard

/-- THE TIED CARD OF 'stockyardlaw03.PatternSubstitutes'. -/
def patternSubstitutesCard : Claim7 := { stood := { row := patternSubstitutesRow, standIns := [], harness := (true, "9da44c2acb220236d5994f157b1fec911e78b59b84f824377c34e9240a15a2ab"), looks := false }, kinds := [], alts := [], laidByText := true, laidKinds := [.data, .pinned], laidTests := true, laidLooks := .later }
def PatternSubstitutesCardSaid : Prop := Claim7.holds Tryd.pinned (.plain (OpenSpec.ofChange patternSubstitutesSpec)) patternSubstitutesCard

/-- THE TIED CARD OF 'stockyardlaw03.PatternMeets'. -/
def patternMeetsCard : Claim7 := { stood := { row := patternMeetsRow, standIns := [], harness := (true, "9da44c2acb220236d5994f157b1fec911e78b59b84f824377c34e9240a15a2ab"), looks := false }, kinds := [], alts := [], laidByText := true, laidKinds := [.data, .pinned], laidTests := true, laidLooks := .later }
def PatternMeetsCardSaid : Prop := Claim7.holds Tryd.pinned (.plain (OpenSpec.ofChange patternMeetsSpec)) patternMeetsCard

/-- THE TIED CARD OF 'stockyardlaw03.PatternBinds'. -/
def patternBindsCard : Claim7 := { stood := { row := patternBindsRow, standIns := [], harness := (true, "9da44c2acb220236d5994f157b1fec911e78b59b84f824377c34e9240a15a2ab"), looks := false }, kinds := [], alts := [], laidByText := true, laidKinds := [.data, .pinned], laidTests := true, laidLooks := .later }
def PatternBindsCardSaid : Prop := Claim7.holds Tryd.pinned (.plain (OpenSpec.ofChange patternBindsSpec)) patternBindsCard

/-- THE TIED CARD OF 'stockyardlaw03.PatternMeans'. -/
def patternMeansCard : Claim7 := { stood := { row := patternMeansRow, standIns := [], harness := (true, "9da44c2acb220236d5994f157b1fec911e78b59b84f824377c34e9240a15a2ab"), looks := false }, kinds := [], alts := [], laidByText := true, laidKinds := [.data, .pinned], laidTests := true, laidLooks := .later }
def PatternMeansCardSaid : Prop := Claim7.holds Tryd.pinned (.plain (OpenSpec.ofChange patternMeansSpec)) patternMeansCard

/-- THE TIED CARD OF 'stockyardlaw03.PatternLaminar'. -/
def patternLaminarCard : Claim7 := { stood := { row := patternLaminarRow, standIns := [], harness := (true, "9da44c2acb220236d5994f157b1fec911e78b59b84f824377c34e9240a15a2ab"), looks := false }, kinds := [], alts := [], laidByText := true, laidKinds := [.data, .pinned], laidTests := true, laidLooks := .later }
def PatternLaminarCardSaid : Prop := Claim7.holds Tryd.pinned (.plain (OpenSpec.ofChange patternLaminarSpec)) patternLaminarCard

/-- THE TIED CARD OF 'stockyardlaw03.PatternNarrows'. -/
def patternNarrowsCard : Claim7 := { stood := { row := patternNarrowsRow, standIns := [], harness := (true, "9da44c2acb220236d5994f157b1fec911e78b59b84f824377c34e9240a15a2ab"), looks := false }, kinds := [], alts := [], laidByText := true, laidKinds := [.data, .pinned], laidTests := true, laidLooks := .later }
def PatternNarrowsCardSaid : Prop := Claim7.holds Tryd.pinned (.plain (OpenSpec.ofChange patternNarrowsSpec)) patternNarrowsCard

/-- THE SECOND FORM's CARD OF 'stockyardlaw03.PatternParses'. -/
def patternParsesUptoCard : Claim7 := { stood := { row := patternParsesUptoRow, standIns := [], harness := (true, "9da44c2acb220236d5994f157b1fec911e78b59b84f824377c34e9240a15a2ab"), looks := false }, kinds := [], alts := [], laidByText := true, laidKinds := [.data, .pinned], laidTests := true, laidLooks := .later }
def PatternParsesUptoCardSaid : Prop := Claim7.holds Tryd.pinned (.plain (OpenSpec.upto patternParsesSpec)) patternParsesUptoCard

/-- THE SECOND FORM's CARD OF 'stockyardlaw03.PatternMatches'. -/
def patternMatchesUptoCard : Claim7 := { stood := { row := patternMatchesUptoRow, standIns := [], harness := (true, "9da44c2acb220236d5994f157b1fec911e78b59b84f824377c34e9240a15a2ab"), looks := false }, kinds := [], alts := [], laidByText := true, laidKinds := [.data, .pinned], laidTests := true, laidLooks := .later }
def PatternMatchesUptoCardSaid : Prop := Claim7.holds Tryd.pinned (.plain (OpenSpec.upto patternMatchesSpec)) patternMatchesUptoCard

/-- THE SECOND FORM's CARD OF 'stockyardlaw03.PatternBack'. -/
def patternBackUptoCard : Claim7 := { stood := { row := patternBackUptoRow, standIns := [], harness := (true, "9da44c2acb220236d5994f157b1fec911e78b59b84f824377c34e9240a15a2ab"), looks := false }, kinds := [], alts := [], laidByText := true, laidKinds := [.data, .pinned], laidTests := true, laidLooks := .later }
def PatternBackUptoCardSaid : Prop := Claim7.holds Tryd.pinned (.plain (OpenSpec.upto patternBackSpec)) patternBackUptoCard

/-- THE SECOND FORM's CARD OF 'stockyardlaw03.PatternFormats'. -/
def patternFormatsUptoCard : Claim7 := { stood := { row := patternFormatsUptoRow, standIns := [], harness := (true, "9da44c2acb220236d5994f157b1fec911e78b59b84f824377c34e9240a15a2ab"), looks := false }, kinds := [], alts := [], laidByText := true, laidKinds := [.data, .pinned], laidTests := true, laidLooks := .later }
def PatternFormatsUptoCardSaid : Prop := Claim7.holds Tryd.pinned (.plain (OpenSpec.upto patternFormatsSpec)) patternFormatsUptoCard

/-- THE SECOND FORM's CARD OF 'stockyardlaw03.PatternOutside'. -/
def patternOutsideUptoCard : Claim7 := { stood := { row := patternOutsideUptoRow, standIns := [], harness := (true, "9da44c2acb220236d5994f157b1fec911e78b59b84f824377c34e9240a15a2ab"), looks := false }, kinds := [], alts := [], laidByText := true, laidKinds := [.data, .pinned], laidTests := true, laidLooks := .later }
def PatternOutsideUptoCardSaid : Prop := Claim7.holds Tryd.pinned (.plain (OpenSpec.upto patternOutsideSpec)) patternOutsideUptoCard

/-- THE SECOND FORM's CARD OF 'stockyardlaw03.PatternWithins'. -/
def patternWithinsUptoCard : Claim7 := { stood := { row := patternWithinsUptoRow, standIns := [], harness := (true, "9da44c2acb220236d5994f157b1fec911e78b59b84f824377c34e9240a15a2ab"), looks := false }, kinds := [], alts := [], laidByText := true, laidKinds := [.data, .pinned], laidTests := true, laidLooks := .later }
def PatternWithinsUptoCardSaid : Prop := Claim7.holds Tryd.pinned (.plain (OpenSpec.upto patternWithinsSpec)) patternWithinsUptoCard

/-- THE SECOND FORM's CARD OF 'stockyardlaw03.PatternLooks'. -/
def patternLooksUptoCard : Claim7 := { stood := { row := patternLooksUptoRow, standIns := [], harness := (true, "9da44c2acb220236d5994f157b1fec911e78b59b84f824377c34e9240a15a2ab"), looks := false }, kinds := [], alts := [], laidByText := true, laidKinds := [.data, .pinned], laidTests := true, laidLooks := .later }
def PatternLooksUptoCardSaid : Prop := Claim7.holds Tryd.pinned (.plain (OpenSpec.upto patternLooksSpec)) patternLooksUptoCard

/-- THE SECOND FORM's CARD OF 'stockyardlaw03.PatternCaptures'. -/
def patternCapturesUptoCard : Claim7 := { stood := { row := patternCapturesUptoRow, standIns := [], harness := (true, "9da44c2acb220236d5994f157b1fec911e78b59b84f824377c34e9240a15a2ab"), looks := false }, kinds := [], alts := [], laidByText := true, laidKinds := [.data, .pinned], laidTests := true, laidLooks := .later }
def PatternCapturesUptoCardSaid : Prop := Claim7.holds Tryd.pinned (.plain (OpenSpec.upto patternCapturesSpec)) patternCapturesUptoCard

/-- THE SECOND FORM's CARD OF 'stockyardlaw03.PatternFills'. -/
def patternFillsUptoCard : Claim7 := { stood := { row := patternFillsUptoRow, standIns := [], harness := (true, "9da44c2acb220236d5994f157b1fec911e78b59b84f824377c34e9240a15a2ab"), looks := false }, kinds := [], alts := [], laidByText := true, laidKinds := [.data, .pinned], laidTests := true, laidLooks := .later }
def PatternFillsUptoCardSaid : Prop := Claim7.holds Tryd.pinned (.plain (OpenSpec.upto patternFillsSpec)) patternFillsUptoCard

/-- THE SECOND FORM's CARD OF 'stockyardlaw03.PatternSubstitutes'. -/
def patternSubstitutesUptoCard : Claim7 := { stood := { row := patternSubstitutesUptoRow, standIns := [], harness := (true, "9da44c2acb220236d5994f157b1fec911e78b59b84f824377c34e9240a15a2ab"), looks := false }, kinds := [], alts := [], laidByText := true, laidKinds := [.data, .pinned], laidTests := true, laidLooks := .later }
def PatternSubstitutesUptoCardSaid : Prop := Claim7.holds Tryd.pinned (.plain (OpenSpec.upto patternSubstitutesSpec)) patternSubstitutesUptoCard

/-- THE SECOND FORM's CARD OF 'stockyardlaw03.PatternMeets'. -/
def patternMeetsUptoCard : Claim7 := { stood := { row := patternMeetsUptoRow, standIns := [], harness := (true, "9da44c2acb220236d5994f157b1fec911e78b59b84f824377c34e9240a15a2ab"), looks := false }, kinds := [], alts := [], laidByText := true, laidKinds := [.data, .pinned], laidTests := true, laidLooks := .later }
def PatternMeetsUptoCardSaid : Prop := Claim7.holds Tryd.pinned (.plain (OpenSpec.upto patternMeetsSpec)) patternMeetsUptoCard

/-- THE SECOND FORM's CARD OF 'stockyardlaw03.PatternBinds'. -/
def patternBindsUptoCard : Claim7 := { stood := { row := patternBindsUptoRow, standIns := [], harness := (true, "9da44c2acb220236d5994f157b1fec911e78b59b84f824377c34e9240a15a2ab"), looks := false }, kinds := [], alts := [], laidByText := true, laidKinds := [.data, .pinned], laidTests := true, laidLooks := .later }
def PatternBindsUptoCardSaid : Prop := Claim7.holds Tryd.pinned (.plain (OpenSpec.upto patternBindsSpec)) patternBindsUptoCard

/-- THE SECOND FORM's CARD OF 'stockyardlaw03.PatternMeans'. -/
def patternMeansUptoCard : Claim7 := { stood := { row := patternMeansUptoRow, standIns := [], harness := (true, "9da44c2acb220236d5994f157b1fec911e78b59b84f824377c34e9240a15a2ab"), looks := false }, kinds := [], alts := [], laidByText := true, laidKinds := [.data, .pinned], laidTests := true, laidLooks := .later }
def PatternMeansUptoCardSaid : Prop := Claim7.holds Tryd.pinned (.plain (OpenSpec.upto patternMeansSpec)) patternMeansUptoCard

/-- THE SECOND FORM's CARD OF 'stockyardlaw03.PatternLaminar'. -/
def patternLaminarUptoCard : Claim7 := { stood := { row := patternLaminarUptoRow, standIns := [], harness := (true, "9da44c2acb220236d5994f157b1fec911e78b59b84f824377c34e9240a15a2ab"), looks := false }, kinds := [], alts := [], laidByText := true, laidKinds := [.data, .pinned], laidTests := true, laidLooks := .later }
def PatternLaminarUptoCardSaid : Prop := Claim7.holds Tryd.pinned (.plain (OpenSpec.upto patternLaminarSpec)) patternLaminarUptoCard

/-- THE SECOND FORM's CARD OF 'stockyardlaw03.PatternNarrows'. -/
def patternNarrowsUptoCard : Claim7 := { stood := { row := patternNarrowsUptoRow, standIns := [], harness := (true, "9da44c2acb220236d5994f157b1fec911e78b59b84f824377c34e9240a15a2ab"), looks := false }, kinds := [], alts := [], laidByText := true, laidKinds := [.data, .pinned], laidTests := true, laidLooks := .later }
def PatternNarrowsUptoCardSaid : Prop := Claim7.holds Tryd.pinned (.plain (OpenSpec.upto patternNarrowsSpec)) patternNarrowsUptoCard
end Rows
end Go.Proofs.YtofmngfmoagenaaDoor
