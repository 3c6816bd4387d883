/-
  DERIVED. GIVEN WITH THE SEED: THE CARDS: each row of YteagecjhpfijjaaDoorRows.lean that lists a variable, with what it lists TIED to the program's text (the seventh form; the later family's looks); each row that meets fmt, with fmt's text TOLD by the authors' own Lean function (tested against real Go, not proved from fmt's source: count such statements apart). THE CARD IS WHAT COUNTS. Prove the row's statement (the work); the ties are given (YteagecjhpfijjaaDoorTie.lean); close each card by the builder's one call (the guide's Derived/Test/ToyasCard.lean, 'card_holds'). Laid BY PROGRAM, IN A SANDBOX (cutbox-door.mjs). By AI agents, Wed Nov 11 2026. No macro, syntax, notation, axiom, sorry.
-/
import Derived.Test.YteagecjhpfijjaaDoorRows
import GoSem.ClaimSeven
namespace Go.Proofs.YteagecjhpfijjaaDoor
namespace Rows

/-- THE TIED CARD OF 'stockyardlaw13.LineageIdentities'. -/
def lineageIdentitiesCard : Claim7 := { stood := { row := lineageIdentitiesRow, standIns := [], harness := (true, "70a22d8065e19f66189cebccb3619407a136a3d47343649e159807b6b7b9660e"), looks := false }, kinds := [], alts := [], laidByText := true, laidKinds := [.data, .pinned], laidTests := true, laidLooks := .later }
def LineageIdentitiesCardSaid : Prop := Claim7.holds Tryd.pinned (.plain (OpenSpec.ofChange lineageIdentitiesSpec)) lineageIdentitiesCard

/-- THE TIED CARD OF 'stockyardlaw13.LineageOrder'. -/
def lineageOrderCard : Claim7 := { stood := { row := lineageOrderRow, standIns := [], harness := (true, "70a22d8065e19f66189cebccb3619407a136a3d47343649e159807b6b7b9660e"), looks := false }, kinds := [], alts := [], laidByText := true, laidKinds := [.data, .pinned], laidTests := true, laidLooks := .later }
def LineageOrderCardSaid : Prop := Claim7.holds Tryd.pinned (.plain (OpenSpec.ofChange lineageOrderSpec)) lineageOrderCard

/-- THE TIED CARD OF 'stockyardlaw13.LineageLines'. -/
def lineageLinesCard : Claim7 := { stood := { row := lineageLinesRow, standIns := [], harness := (true, "70a22d8065e19f66189cebccb3619407a136a3d47343649e159807b6b7b9660e"), looks := false }, kinds := [], alts := [], laidByText := true, laidKinds := [.data, .pinned], laidTests := true, laidLooks := .later }
def LineageLinesCardSaid : Prop := Claim7.holds Tryd.pinned (.plain (OpenSpec.ofChange lineageLinesSpec)) lineageLinesCard

/-- THE TIED CARD OF 'stockyardlaw13.LineagePartition'. -/
def lineagePartitionCard : Claim7 := { stood := { row := lineagePartitionRow, standIns := [], harness := (true, "70a22d8065e19f66189cebccb3619407a136a3d47343649e159807b6b7b9660e"), looks := false }, kinds := [], alts := [], laidByText := true, laidKinds := [.data, .pinned], laidTests := true, laidLooks := .later }
def LineagePartitionCardSaid : Prop := Claim7.holds Tryd.pinned (.plain (OpenSpec.ofChange lineagePartitionSpec)) lineagePartitionCard

/-- THE TIED CARD OF 'stockyardlaw13.LineageGrows'. -/
def lineageGrowsCard : Claim7 := { stood := { row := lineageGrowsRow, standIns := [], harness := (true, "70a22d8065e19f66189cebccb3619407a136a3d47343649e159807b6b7b9660e"), looks := false }, kinds := [], alts := [], laidByText := true, laidKinds := [.data, .pinned], laidTests := true, laidLooks := .later }
def LineageGrowsCardSaid : Prop := Claim7.holds Tryd.pinned (.plain (OpenSpec.ofChange lineageGrowsSpec)) lineageGrowsCard

/-- THE TIED CARD OF 'stockyardlaw13.LineageWheres'. -/
def lineageWheresCard : Claim7 := { stood := { row := lineageWheresRow, standIns := [], harness := (true, "70a22d8065e19f66189cebccb3619407a136a3d47343649e159807b6b7b9660e"), looks := false }, kinds := [], alts := [], laidByText := true, laidKinds := [.data, .pinned], laidTests := true, laidLooks := .later }
def LineageWheresCardSaid : Prop := Claim7.holds Tryd.pinned (.plain (OpenSpec.ofChange lineageWheresSpec)) lineageWheresCard

/-- THE TIED CARD OF 'stockyardlaw13.LineageRename'. -/
def lineageRenameCard : Claim7 := { stood := { row := lineageRenameRow, standIns := [], harness := (true, "70a22d8065e19f66189cebccb3619407a136a3d47343649e159807b6b7b9660e"), looks := false }, kinds := [], alts := [], laidByText := true, laidKinds := [.data, .pinned], laidTests := true, laidLooks := .later }
def LineageRenameCardSaid : Prop := Claim7.holds Tryd.pinned (.plain (OpenSpec.ofChange lineageRenameSpec)) lineageRenameCard

/-- THE TIED CARD OF 'stockyardlaw13.LineageOnePlace'. -/
def lineageOnePlaceCard : Claim7 := { stood := { row := lineageOnePlaceRow, standIns := [], harness := (true, "70a22d8065e19f66189cebccb3619407a136a3d47343649e159807b6b7b9660e"), looks := false }, kinds := [], alts := [], laidByText := true, laidKinds := [.data, .pinned], laidTests := true, laidLooks := .later }
def LineageOnePlaceCardSaid : Prop := Claim7.holds Tryd.pinned (.plain (OpenSpec.ofChange lineageOnePlaceSpec)) lineageOnePlaceCard

/-- THE SECOND FORM's CARD OF 'stockyardlaw13.LineageIdentities'. -/
def lineageIdentitiesUptoCard : Claim7 := { stood := { row := lineageIdentitiesUptoRow, standIns := [], harness := (true, "70a22d8065e19f66189cebccb3619407a136a3d47343649e159807b6b7b9660e"), looks := false }, kinds := [], alts := [], laidByText := true, laidKinds := [.data, .pinned], laidTests := true, laidLooks := .later }
def LineageIdentitiesUptoCardSaid : Prop := Claim7.holds Tryd.pinned (.plain (OpenSpec.upto lineageIdentitiesSpec)) lineageIdentitiesUptoCard

/-- THE SECOND FORM's CARD OF 'stockyardlaw13.LineageOrder'. -/
def lineageOrderUptoCard : Claim7 := { stood := { row := lineageOrderUptoRow, standIns := [], harness := (true, "70a22d8065e19f66189cebccb3619407a136a3d47343649e159807b6b7b9660e"), looks := false }, kinds := [], alts := [], laidByText := true, laidKinds := [.data, .pinned], laidTests := true, laidLooks := .later }
def LineageOrderUptoCardSaid : Prop := Claim7.holds Tryd.pinned (.plain (OpenSpec.upto lineageOrderSpec)) lineageOrderUptoCard

/-- THE SECOND FORM's CARD OF 'stockyardlaw13.LineageLines'. -/
def lineageLinesUptoCard : Claim7 := { stood := { row := lineageLinesUptoRow, standIns := [], harness := (true, "70a22d8065e19f66189cebccb3619407a136a3d47343649e159807b6b7b9660e"), looks := false }, kinds := [], alts := [], laidByText := true, laidKinds := [.data, .pinned], laidTests := true, laidLooks := .later }
def LineageLinesUptoCardSaid : Prop := Claim7.holds Tryd.pinned (.plain (OpenSpec.upto lineageLinesSpec)) lineageLinesUptoCard

/-- THE SECOND FORM's CARD OF 'stockyardlaw13.LineagePartition'. -/
def lineagePartitionUptoCard : Claim7 := { stood := { row := lineagePartitionUptoRow, standIns := [], harness := (true, "70a22d8065e19f66189cebccb3619407a136a3d47343649e159807b6b7b9660e"), looks := false }, kinds := [], alts := [], laidByText := true, laidKinds := [.data, .pinned], laidTests := true, laidLooks := .later }
def LineagePartitionUptoCardSaid : Prop := Claim7.holds Tryd.pinned (.plain (OpenSpec.upto lineagePartitionSpec)) lineagePartitionUptoCard

/-- THE SECOND FORM's CARD OF 'stockyardlaw13.LineageGrows'. -/
def lineageGrowsUptoCard : Claim7 := { stood := { row := lineageGrowsUptoRow, standIns := [], harness := (true, "70a22d8065e19f66189cebccb3619407a136a3d47343649e159807b6b7b9660e"), looks := false }, kinds := [], alts := [], laidByText := true, laidKinds := [.data, .pinned], laidTests := true, laidLooks := .later }
def LineageGrowsUptoCardSaid : Prop := Claim7.holds Tryd.pinned (.plain (OpenSpec.upto lineageGrowsSpec)) lineageGrowsUptoCard

/-- THE SECOND FORM's CARD OF 'stockyardlaw13.LineageWheres'. -/
def lineageWheresUptoCard : Claim7 := { stood := { row := lineageWheresUptoRow, standIns := [], harness := (true, "70a22d8065e19f66189cebccb3619407a136a3d47343649e159807b6b7b9660e"), looks := false }, kinds := [], alts := [], laidByText := true, laidKinds := [.data, .pinned], laidTests := true, laidLooks := .later }
def LineageWheresUptoCardSaid : Prop := Claim7.holds Tryd.pinned (.plain (OpenSpec.upto lineageWheresSpec)) lineageWheresUptoCard

/-- THE SECOND FORM's CARD OF 'stockyardlaw13.LineageRename'. -/
def lineageRenameUptoCard : Claim7 := { stood := { row := lineageRenameUptoRow, standIns := [], harness := (true, "70a22d8065e19f66189cebccb3619407a136a3d47343649e159807b6b7b9660e"), looks := false }, kinds := [], alts := [], laidByText := true, laidKinds := [.data, .pinned], laidTests := true, laidLooks := .later }
def LineageRenameUptoCardSaid : Prop := Claim7.holds Tryd.pinned (.plain (OpenSpec.upto lineageRenameSpec)) lineageRenameUptoCard

/-- THE SECOND FORM's CARD OF 'stockyardlaw13.LineageOnePlace'. -/
def lineageOnePlaceUptoCard : Claim7 := { stood := { row := lineageOnePlaceUptoRow, standIns := [], harness := (true, "70a22d8065e19f66189cebccb3619407a136a3d47343649e159807b6b7b9660e"), looks := false }, kinds := [], alts := [], laidByText := true, laidKinds := [.data, .pinned], laidTests := true, laidLooks := .later }
def LineageOnePlaceUptoCardSaid : Prop := Claim7.holds Tryd.pinned (.plain (OpenSpec.upto lineageOnePlaceSpec)) lineageOnePlaceUptoCard
end Rows
end Go.Proofs.YteagecjhpfijjaaDoor
