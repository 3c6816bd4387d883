/-
  DERIVED. GIVEN WITH THE SEED: THE CARDS: each row of YtidjmbmnfnnleaaDoorRows.lean that lists a variable, with what it lists TIED to the program's text (the seventh form; the later family's looks); each row that meets fmt, with fmt's text TOLD by the authors' own Lean function (tested against real Go, not proved from fmt's source: count such statements apart). THE CARD IS WHAT COUNTS. Prove the row's statement (the work); the ties are given (YtidjmbmnfnnleaaDoorTie.lean); close each card by the builder's one call (the guide's Derived/Test/ToyasCard.lean, 'card_holds'). Laid BY PROGRAM, IN A SANDBOX (cutbox-door.mjs). By AI agents, Wed Nov 11 2026. No macro, syntax, notation, axiom, sorry.
-/
import Derived.Test.YtidjmbmnfnnleaaDoorRows
import GoSem.ClaimSeven
namespace Go.Proofs.YtidjmbmnfnnleaaDoor
namespace Rows

/-- THE TIED CARD OF 'stockyardlaw04.RuleMaps'. -/
def ruleMapsCard : Claim7 := { stood := { row := ruleMapsRow, standIns := [], harness := (true, "17cdba9efea5c685be58c96b9f3a8aa879a7d1be2a2ec86d5341cfc50fef3ae9"), looks := false }, kinds := [], alts := [], laidByText := true, laidKinds := [.data, .pinned], laidTests := true, laidLooks := .later }
def RuleMapsCardSaid : Prop := Claim7.holds Tryd.pinned (.plain (OpenSpec.ofChange ruleMapsSpec)) ruleMapsCard

/-- THE TIED CARD OF 'stockyardlaw04.RuleChecks'. -/
def ruleChecksCard : Claim7 := { stood := { row := ruleChecksRow, standIns := [], harness := (true, "17cdba9efea5c685be58c96b9f3a8aa879a7d1be2a2ec86d5341cfc50fef3ae9"), looks := false }, kinds := [], alts := [], laidByText := true, laidKinds := [.data, .pinned], laidTests := true, laidLooks := .later }
def RuleChecksCardSaid : Prop := Claim7.holds Tryd.pinned (.plain (OpenSpec.ofChange ruleChecksSpec)) ruleChecksCard

/-- THE TIED CARD OF 'stockyardlaw04.RuleBack'. -/
def ruleBackCard : Claim7 := { stood := { row := ruleBackRow, standIns := [], harness := (true, "17cdba9efea5c685be58c96b9f3a8aa879a7d1be2a2ec86d5341cfc50fef3ae9"), looks := false }, kinds := [], alts := [], laidByText := true, laidKinds := [.data, .pinned], laidTests := true, laidLooks := .later }
def RuleBackCardSaid : Prop := Claim7.holds Tryd.pinned (.plain (OpenSpec.ofChange ruleBackSpec)) ruleBackCard

/-- THE TIED CARD OF 'stockyardlaw04.RuleNarrowsLeft'. -/
def ruleNarrowsLeftCard : Claim7 := { stood := { row := ruleNarrowsLeftRow, standIns := [], harness := (true, "17cdba9efea5c685be58c96b9f3a8aa879a7d1be2a2ec86d5341cfc50fef3ae9"), looks := false }, kinds := [], alts := [], laidByText := true, laidKinds := [.data, .pinned], laidTests := true, laidLooks := .later }
def RuleNarrowsLeftCardSaid : Prop := Claim7.holds Tryd.pinned (.plain (OpenSpec.ofChange ruleNarrowsLeftSpec)) ruleNarrowsLeftCard

/-- THE TIED CARD OF 'stockyardlaw04.RuleNarrowMeans'. -/
def ruleNarrowMeansCard : Claim7 := { stood := { row := ruleNarrowMeansRow, standIns := [], harness := (true, "17cdba9efea5c685be58c96b9f3a8aa879a7d1be2a2ec86d5341cfc50fef3ae9"), looks := false }, kinds := [], alts := [], laidByText := true, laidKinds := [.data, .pinned], laidTests := true, laidLooks := .later }
def RuleNarrowMeansCardSaid : Prop := Claim7.holds Tryd.pinned (.plain (OpenSpec.ofChange ruleNarrowMeansSpec)) ruleNarrowMeansCard

/-- THE TIED CARD OF 'stockyardlaw04.RuleChainMeans'. -/
def ruleChainMeansCard : Claim7 := { stood := { row := ruleChainMeansRow, standIns := [], harness := (true, "17cdba9efea5c685be58c96b9f3a8aa879a7d1be2a2ec86d5341cfc50fef3ae9"), looks := false }, kinds := [], alts := [], laidByText := true, laidKinds := [.data, .pinned], laidTests := true, laidLooks := .later }
def RuleChainMeansCardSaid : Prop := Claim7.holds Tryd.pinned (.plain (OpenSpec.ofChange ruleChainMeansSpec)) ruleChainMeansCard

/-- THE TIED CARD OF 'stockyardlaw04.RuleAssociates'. -/
def ruleAssociatesCard : Claim7 := { stood := { row := ruleAssociatesRow, standIns := [], harness := (true, "17cdba9efea5c685be58c96b9f3a8aa879a7d1be2a2ec86d5341cfc50fef3ae9"), looks := false }, kinds := [], alts := [], laidByText := true, laidKinds := [.data, .pinned], laidTests := true, laidLooks := .later }
def RuleAssociatesCardSaid : Prop := Claim7.holds Tryd.pinned (.plain (OpenSpec.ofChange ruleAssociatesSpec)) ruleAssociatesCard

/-- THE TIED CARD OF 'stockyardlaw04.RuleNarrowsRight'. -/
def ruleNarrowsRightCard : Claim7 := { stood := { row := ruleNarrowsRightRow, standIns := [], harness := (true, "17cdba9efea5c685be58c96b9f3a8aa879a7d1be2a2ec86d5341cfc50fef3ae9"), looks := false }, kinds := [], alts := [], laidByText := true, laidKinds := [.data, .pinned], laidTests := true, laidLooks := .later }
def RuleNarrowsRightCardSaid : Prop := Claim7.holds Tryd.pinned (.plain (OpenSpec.ofChange ruleNarrowsRightSpec)) ruleNarrowsRightCard

/-- THE TIED CARD OF 'stockyardlaw04.RuleChains'. -/
def ruleChainsCard : Claim7 := { stood := { row := ruleChainsRow, standIns := [], harness := (true, "17cdba9efea5c685be58c96b9f3a8aa879a7d1be2a2ec86d5341cfc50fef3ae9"), looks := false }, kinds := [], alts := [], laidByText := true, laidKinds := [.data, .pinned], laidTests := true, laidLooks := .later }
def RuleChainsCardSaid : Prop := Claim7.holds Tryd.pinned (.plain (OpenSpec.ofChange ruleChainsSpec)) ruleChainsCard

/-- THE TIED CARD OF 'stockyardlaw04.RuleAgrees'. -/
def ruleAgreesCard : Claim7 := { stood := { row := ruleAgreesRow, standIns := [], harness := (true, "17cdba9efea5c685be58c96b9f3a8aa879a7d1be2a2ec86d5341cfc50fef3ae9"), looks := false }, kinds := [], alts := [], laidByText := true, laidKinds := [.data, .pinned], laidTests := true, laidLooks := .later }
def RuleAgreesCardSaid : Prop := Claim7.holds Tryd.pinned (.plain (OpenSpec.ofChange ruleAgreesSpec)) ruleAgreesCard

/-- THE TIED CARD OF 'stockyardlaw04.RuleAgreeMeans'. -/
def ruleAgreeMeansCard : Claim7 := { stood := { row := ruleAgreeMeansRow, standIns := [], harness := (true, "17cdba9efea5c685be58c96b9f3a8aa879a7d1be2a2ec86d5341cfc50fef3ae9"), looks := false }, kinds := [], alts := [], laidByText := true, laidKinds := [.data, .pinned], laidTests := true, laidLooks := .later }
def RuleAgreeMeansCardSaid : Prop := Claim7.holds Tryd.pinned (.plain (OpenSpec.ofChange ruleAgreeMeansSpec)) ruleAgreeMeansCard

/-- THE SECOND FORM's CARD OF 'stockyardlaw04.RuleMaps'. -/
def ruleMapsUptoCard : Claim7 := { stood := { row := ruleMapsUptoRow, standIns := [], harness := (true, "17cdba9efea5c685be58c96b9f3a8aa879a7d1be2a2ec86d5341cfc50fef3ae9"), looks := false }, kinds := [], alts := [], laidByText := true, laidKinds := [.data, .pinned], laidTests := true, laidLooks := .later }
def RuleMapsUptoCardSaid : Prop := Claim7.holds Tryd.pinned (.plain (OpenSpec.upto ruleMapsSpec)) ruleMapsUptoCard

/-- THE SECOND FORM's CARD OF 'stockyardlaw04.RuleChecks'. -/
def ruleChecksUptoCard : Claim7 := { stood := { row := ruleChecksUptoRow, standIns := [], harness := (true, "17cdba9efea5c685be58c96b9f3a8aa879a7d1be2a2ec86d5341cfc50fef3ae9"), looks := false }, kinds := [], alts := [], laidByText := true, laidKinds := [.data, .pinned], laidTests := true, laidLooks := .later }
def RuleChecksUptoCardSaid : Prop := Claim7.holds Tryd.pinned (.plain (OpenSpec.upto ruleChecksSpec)) ruleChecksUptoCard

/-- THE SECOND FORM's CARD OF 'stockyardlaw04.RuleBack'. -/
def ruleBackUptoCard : Claim7 := { stood := { row := ruleBackUptoRow, standIns := [], harness := (true, "17cdba9efea5c685be58c96b9f3a8aa879a7d1be2a2ec86d5341cfc50fef3ae9"), looks := false }, kinds := [], alts := [], laidByText := true, laidKinds := [.data, .pinned], laidTests := true, laidLooks := .later }
def RuleBackUptoCardSaid : Prop := Claim7.holds Tryd.pinned (.plain (OpenSpec.upto ruleBackSpec)) ruleBackUptoCard

/-- THE SECOND FORM's CARD OF 'stockyardlaw04.RuleNarrowsLeft'. -/
def ruleNarrowsLeftUptoCard : Claim7 := { stood := { row := ruleNarrowsLeftUptoRow, standIns := [], harness := (true, "17cdba9efea5c685be58c96b9f3a8aa879a7d1be2a2ec86d5341cfc50fef3ae9"), looks := false }, kinds := [], alts := [], laidByText := true, laidKinds := [.data, .pinned], laidTests := true, laidLooks := .later }
def RuleNarrowsLeftUptoCardSaid : Prop := Claim7.holds Tryd.pinned (.plain (OpenSpec.upto ruleNarrowsLeftSpec)) ruleNarrowsLeftUptoCard

/-- THE SECOND FORM's CARD OF 'stockyardlaw04.RuleNarrowMeans'. -/
def ruleNarrowMeansUptoCard : Claim7 := { stood := { row := ruleNarrowMeansUptoRow, standIns := [], harness := (true, "17cdba9efea5c685be58c96b9f3a8aa879a7d1be2a2ec86d5341cfc50fef3ae9"), looks := false }, kinds := [], alts := [], laidByText := true, laidKinds := [.data, .pinned], laidTests := true, laidLooks := .later }
def RuleNarrowMeansUptoCardSaid : Prop := Claim7.holds Tryd.pinned (.plain (OpenSpec.upto ruleNarrowMeansSpec)) ruleNarrowMeansUptoCard

/-- THE SECOND FORM's CARD OF 'stockyardlaw04.RuleChainMeans'. -/
def ruleChainMeansUptoCard : Claim7 := { stood := { row := ruleChainMeansUptoRow, standIns := [], harness := (true, "17cdba9efea5c685be58c96b9f3a8aa879a7d1be2a2ec86d5341cfc50fef3ae9"), looks := false }, kinds := [], alts := [], laidByText := true, laidKinds := [.data, .pinned], laidTests := true, laidLooks := .later }
def RuleChainMeansUptoCardSaid : Prop := Claim7.holds Tryd.pinned (.plain (OpenSpec.upto ruleChainMeansSpec)) ruleChainMeansUptoCard

/-- THE SECOND FORM's CARD OF 'stockyardlaw04.RuleAssociates'. -/
def ruleAssociatesUptoCard : Claim7 := { stood := { row := ruleAssociatesUptoRow, standIns := [], harness := (true, "17cdba9efea5c685be58c96b9f3a8aa879a7d1be2a2ec86d5341cfc50fef3ae9"), looks := false }, kinds := [], alts := [], laidByText := true, laidKinds := [.data, .pinned], laidTests := true, laidLooks := .later }
def RuleAssociatesUptoCardSaid : Prop := Claim7.holds Tryd.pinned (.plain (OpenSpec.upto ruleAssociatesSpec)) ruleAssociatesUptoCard

/-- THE SECOND FORM's CARD OF 'stockyardlaw04.RuleNarrowsRight'. -/
def ruleNarrowsRightUptoCard : Claim7 := { stood := { row := ruleNarrowsRightUptoRow, standIns := [], harness := (true, "17cdba9efea5c685be58c96b9f3a8aa879a7d1be2a2ec86d5341cfc50fef3ae9"), looks := false }, kinds := [], alts := [], laidByText := true, laidKinds := [.data, .pinned], laidTests := true, laidLooks := .later }
def RuleNarrowsRightUptoCardSaid : Prop := Claim7.holds Tryd.pinned (.plain (OpenSpec.upto ruleNarrowsRightSpec)) ruleNarrowsRightUptoCard

/-- THE SECOND FORM's CARD OF 'stockyardlaw04.RuleChains'. -/
def ruleChainsUptoCard : Claim7 := { stood := { row := ruleChainsUptoRow, standIns := [], harness := (true, "17cdba9efea5c685be58c96b9f3a8aa879a7d1be2a2ec86d5341cfc50fef3ae9"), looks := false }, kinds := [], alts := [], laidByText := true, laidKinds := [.data, .pinned], laidTests := true, laidLooks := .later }
def RuleChainsUptoCardSaid : Prop := Claim7.holds Tryd.pinned (.plain (OpenSpec.upto ruleChainsSpec)) ruleChainsUptoCard

/-- THE SECOND FORM's CARD OF 'stockyardlaw04.RuleAgrees'. -/
def ruleAgreesUptoCard : Claim7 := { stood := { row := ruleAgreesUptoRow, standIns := [], harness := (true, "17cdba9efea5c685be58c96b9f3a8aa879a7d1be2a2ec86d5341cfc50fef3ae9"), looks := false }, kinds := [], alts := [], laidByText := true, laidKinds := [.data, .pinned], laidTests := true, laidLooks := .later }
def RuleAgreesUptoCardSaid : Prop := Claim7.holds Tryd.pinned (.plain (OpenSpec.upto ruleAgreesSpec)) ruleAgreesUptoCard

/-- THE SECOND FORM's CARD OF 'stockyardlaw04.RuleAgreeMeans'. -/
def ruleAgreeMeansUptoCard : Claim7 := { stood := { row := ruleAgreeMeansUptoRow, standIns := [], harness := (true, "17cdba9efea5c685be58c96b9f3a8aa879a7d1be2a2ec86d5341cfc50fef3ae9"), looks := false }, kinds := [], alts := [], laidByText := true, laidKinds := [.data, .pinned], laidTests := true, laidLooks := .later }
def RuleAgreeMeansUptoCardSaid : Prop := Claim7.holds Tryd.pinned (.plain (OpenSpec.upto ruleAgreeMeansSpec)) ruleAgreeMeansUptoCard
end Rows
end Go.Proofs.YtidjmbmnfnnleaaDoor
