/-
  DERIVED. GIVEN WITH THE SEED: THE CARDS: each row of YtpiecifdjfleaaaDoorRows.lean that lists a variable, with what it lists TIED to the program's text (the seventh form; the later family's looks); each row that meets fmt, with fmt's text TOLD by the authors' own Lean function (tested against real Go, not proved from fmt's source: count such statements apart). THE CARD IS WHAT COUNTS. Prove the row's statement (the work); the ties are given (YtpiecifdjfleaaaDoorTie.lean); close each card by the builder's one call (the guide's Derived/Test/ToyasCard.lean, 'card_holds'). Laid BY PROGRAM, IN A SANDBOX (cutbox-door.mjs). By AI agents, Wed Nov 11 2026. No macro, syntax, notation, axiom, sorry.
-/
import Derived.Test.YtpiecifdjfleaaaDoorRows
import GoSem.ClaimSeven
namespace Go.Proofs.YtpiecifdjfleaaaDoor
namespace Rows

/-- THE TIED CARD OF 'stockyardlaw02.PathValids'. -/
def pathValidsCard : Claim7 := { stood := { row := pathValidsRow, standIns := [], harness := (true, "d400b9d16c198f9efd52f04143db16949a72fed3c46e526440795260225d3436"), looks := false }, kinds := [], alts := [], laidByText := true, laidKinds := [.data, .pinned], laidTests := true, laidLooks := .later }
def PathValidsCardSaid : Prop := Claim7.holds Tryd.pinned (.plain (OpenSpec.ofChange pathValidsSpec)) pathValidsCard

/-- THE TIED CARD OF 'stockyardlaw02.PathCompares'. -/
def pathComparesCard : Claim7 := { stood := { row := pathComparesRow, standIns := [], harness := (true, "d400b9d16c198f9efd52f04143db16949a72fed3c46e526440795260225d3436"), looks := false }, kinds := [], alts := [], laidByText := true, laidKinds := [.data, .pinned], laidTests := true, laidLooks := .later }
def PathComparesCardSaid : Prop := Claim7.holds Tryd.pinned (.plain (OpenSpec.ofChange pathComparesSpec)) pathComparesCard

/-- THE TIED CARD OF 'stockyardlaw02.PathSplits'. -/
def pathSplitsCard : Claim7 := { stood := { row := pathSplitsRow, standIns := [], harness := (true, "d400b9d16c198f9efd52f04143db16949a72fed3c46e526440795260225d3436"), looks := false }, kinds := [], alts := [], laidByText := true, laidKinds := [.data, .pinned], laidTests := true, laidLooks := .later }
def PathSplitsCardSaid : Prop := Claim7.holds Tryd.pinned (.plain (OpenSpec.ofChange pathSplitsSpec)) pathSplitsCard

/-- THE TIED CARD OF 'stockyardlaw02.PathNeighbours'. -/
def pathNeighboursCard : Claim7 := { stood := { row := pathNeighboursRow, standIns := [], harness := (true, "d400b9d16c198f9efd52f04143db16949a72fed3c46e526440795260225d3436"), looks := false }, kinds := [], alts := [], laidByText := true, laidKinds := [.data, .pinned], laidTests := true, laidLooks := .later }
def PathNeighboursCardSaid : Prop := Claim7.holds Tryd.pinned (.plain (OpenSpec.ofChange pathNeighboursSpec)) pathNeighboursCard

/-- THE TIED CARD OF 'stockyardlaw02.PathUnders'. -/
def pathUndersCard : Claim7 := { stood := { row := pathUndersRow, standIns := [], harness := (true, "d400b9d16c198f9efd52f04143db16949a72fed3c46e526440795260225d3436"), looks := false }, kinds := [], alts := [], laidByText := true, laidKinds := [.data, .pinned], laidTests := true, laidLooks := .later }
def PathUndersCardSaid : Prop := Claim7.holds Tryd.pinned (.plain (OpenSpec.ofChange pathUndersSpec)) pathUndersCard

/-- THE TIED CARD OF 'stockyardlaw02.PathPieces'. -/
def pathPiecesCard : Claim7 := { stood := { row := pathPiecesRow, standIns := [], harness := (true, "d400b9d16c198f9efd52f04143db16949a72fed3c46e526440795260225d3436"), looks := false }, kinds := [], alts := [], laidByText := true, laidKinds := [.data, .pinned], laidTests := true, laidLooks := .later }
def PathPiecesCardSaid : Prop := Claim7.holds Tryd.pinned (.plain (OpenSpec.ofChange pathPiecesSpec)) pathPiecesCard

/-- THE TIED CARD OF 'stockyardlaw02.PathBack'. -/
def pathBackCard : Claim7 := { stood := { row := pathBackRow, standIns := [], harness := (true, "d400b9d16c198f9efd52f04143db16949a72fed3c46e526440795260225d3436"), looks := false }, kinds := [], alts := [], laidByText := true, laidKinds := [.data, .pinned], laidTests := true, laidLooks := .later }
def PathBackCardSaid : Prop := Claim7.holds Tryd.pinned (.plain (OpenSpec.ofChange pathBackSpec)) pathBackCard

/-- THE SECOND FORM's CARD OF 'stockyardlaw02.PathValids'. -/
def pathValidsUptoCard : Claim7 := { stood := { row := pathValidsUptoRow, standIns := [], harness := (true, "d400b9d16c198f9efd52f04143db16949a72fed3c46e526440795260225d3436"), looks := false }, kinds := [], alts := [], laidByText := true, laidKinds := [.data, .pinned], laidTests := true, laidLooks := .later }
def PathValidsUptoCardSaid : Prop := Claim7.holds Tryd.pinned (.plain (OpenSpec.upto pathValidsSpec)) pathValidsUptoCard

/-- THE SECOND FORM's CARD OF 'stockyardlaw02.PathCompares'. -/
def pathComparesUptoCard : Claim7 := { stood := { row := pathComparesUptoRow, standIns := [], harness := (true, "d400b9d16c198f9efd52f04143db16949a72fed3c46e526440795260225d3436"), looks := false }, kinds := [], alts := [], laidByText := true, laidKinds := [.data, .pinned], laidTests := true, laidLooks := .later }
def PathComparesUptoCardSaid : Prop := Claim7.holds Tryd.pinned (.plain (OpenSpec.upto pathComparesSpec)) pathComparesUptoCard

/-- THE SECOND FORM's CARD OF 'stockyardlaw02.PathSplits'. -/
def pathSplitsUptoCard : Claim7 := { stood := { row := pathSplitsUptoRow, standIns := [], harness := (true, "d400b9d16c198f9efd52f04143db16949a72fed3c46e526440795260225d3436"), looks := false }, kinds := [], alts := [], laidByText := true, laidKinds := [.data, .pinned], laidTests := true, laidLooks := .later }
def PathSplitsUptoCardSaid : Prop := Claim7.holds Tryd.pinned (.plain (OpenSpec.upto pathSplitsSpec)) pathSplitsUptoCard

/-- THE SECOND FORM's CARD OF 'stockyardlaw02.PathNeighbours'. -/
def pathNeighboursUptoCard : Claim7 := { stood := { row := pathNeighboursUptoRow, standIns := [], harness := (true, "d400b9d16c198f9efd52f04143db16949a72fed3c46e526440795260225d3436"), looks := false }, kinds := [], alts := [], laidByText := true, laidKinds := [.data, .pinned], laidTests := true, laidLooks := .later }
def PathNeighboursUptoCardSaid : Prop := Claim7.holds Tryd.pinned (.plain (OpenSpec.upto pathNeighboursSpec)) pathNeighboursUptoCard

/-- THE SECOND FORM's CARD OF 'stockyardlaw02.PathUnders'. -/
def pathUndersUptoCard : Claim7 := { stood := { row := pathUndersUptoRow, standIns := [], harness := (true, "d400b9d16c198f9efd52f04143db16949a72fed3c46e526440795260225d3436"), looks := false }, kinds := [], alts := [], laidByText := true, laidKinds := [.data, .pinned], laidTests := true, laidLooks := .later }
def PathUndersUptoCardSaid : Prop := Claim7.holds Tryd.pinned (.plain (OpenSpec.upto pathUndersSpec)) pathUndersUptoCard

/-- THE SECOND FORM's CARD OF 'stockyardlaw02.PathPieces'. -/
def pathPiecesUptoCard : Claim7 := { stood := { row := pathPiecesUptoRow, standIns := [], harness := (true, "d400b9d16c198f9efd52f04143db16949a72fed3c46e526440795260225d3436"), looks := false }, kinds := [], alts := [], laidByText := true, laidKinds := [.data, .pinned], laidTests := true, laidLooks := .later }
def PathPiecesUptoCardSaid : Prop := Claim7.holds Tryd.pinned (.plain (OpenSpec.upto pathPiecesSpec)) pathPiecesUptoCard

/-- THE SECOND FORM's CARD OF 'stockyardlaw02.PathBack'. -/
def pathBackUptoCard : Claim7 := { stood := { row := pathBackUptoRow, standIns := [], harness := (true, "d400b9d16c198f9efd52f04143db16949a72fed3c46e526440795260225d3436"), looks := false }, kinds := [], alts := [], laidByText := true, laidKinds := [.data, .pinned], laidTests := true, laidLooks := .later }
def PathBackUptoCardSaid : Prop := Claim7.holds Tryd.pinned (.plain (OpenSpec.upto pathBackSpec)) pathBackUptoCard
end Rows
end Go.Proofs.YtpiecifdjfleaaaDoor
