/-
  DERIVED. GIVEN WITH THE SEED: THE CARDS: each row of YtelkmeiepliecaaGreatDoorRows.lean that lists a variable, with what it lists TIED to the program's text (the seventh form; the later family's looks); each row that meets fmt, with fmt's text TOLD by the authors' own Lean function (tested against real Go, not proved from fmt's source: count such statements apart). THE CARD IS WHAT COUNTS. Prove the row's statement (the work); the ties are given (YtelkmeiepliecaaGreatDoorTie.lean); close each card by the builder's one call (the guide's Derived/Test/ToyasCard.lean, 'card_holds'). Laid BY PROGRAM, IN A SANDBOX (cutbox-door.mjs). By AI agents, Wed Nov 11 2026. No macro, syntax, notation, axiom, sorry.
-/
import Derived.Test.YtelkmeiepliecaaGreatDoorRows
import GoSem.ClaimSeven
namespace Go.Proofs.YtelkmeiepliecaaGreatDoor
namespace Rows

/-- THE TIED CARD OF 'stockyardtop.TopStreamViews'. -/
def topStreamViewsCard : Claim7 := { stood := { row := topStreamViewsRow, standIns := [], harness := (true, "7df187fc956d961631713d06fec7e378aa857c0c4a9468413b4a8f8ca21a85f9"), looks := false }, kinds := [], alts := [], laidByText := true, laidKinds := [.data, .pinned], laidTests := true, laidLooks := .later }
def TopStreamViewsCardSaid : Prop := Claim7.holds Tryz.pinned (.plain (OpenSpec.ofChange topStreamViewsSpec)) topStreamViewsCard

/-- THE TIED CARD OF 'stockyardtop.TopStreamAgrees'. -/
def topStreamAgreesCard : Claim7 := { stood := { row := topStreamAgreesRow, standIns := [], harness := (true, "7df187fc956d961631713d06fec7e378aa857c0c4a9468413b4a8f8ca21a85f9"), looks := false }, kinds := [], alts := [], laidByText := true, laidKinds := [.data, .pinned], laidTests := true, laidLooks := .later }
def TopStreamAgreesCardSaid : Prop := Claim7.holds Tryz.pinned (.plain (OpenSpec.ofChange topStreamAgreesSpec)) topStreamAgreesCard

/-- THE SECOND FORM's CARD OF 'stockyardtop.TopStreamViews'. -/
def topStreamViewsUptoCard : Claim7 := { stood := { row := topStreamViewsUptoRow, standIns := [], harness := (true, "7df187fc956d961631713d06fec7e378aa857c0c4a9468413b4a8f8ca21a85f9"), looks := false }, kinds := [], alts := [], laidByText := true, laidKinds := [.data, .pinned], laidTests := true, laidLooks := .later }
def TopStreamViewsUptoCardSaid : Prop := Claim7.holds Tryz.pinned (.plain (OpenSpec.upto topStreamViewsSpec)) topStreamViewsUptoCard

/-- THE SECOND FORM's CARD OF 'stockyardtop.TopStreamAgrees'. -/
def topStreamAgreesUptoCard : Claim7 := { stood := { row := topStreamAgreesUptoRow, standIns := [], harness := (true, "7df187fc956d961631713d06fec7e378aa857c0c4a9468413b4a8f8ca21a85f9"), looks := false }, kinds := [], alts := [], laidByText := true, laidKinds := [.data, .pinned], laidTests := true, laidLooks := .later }
def TopStreamAgreesUptoCardSaid : Prop := Claim7.holds Tryz.pinned (.plain (OpenSpec.upto topStreamAgreesSpec)) topStreamAgreesUptoCard
end Rows
end Go.Proofs.YtelkmeiepliecaaGreatDoor
