/-
  The walk of the reference's Merge.
-/
import Derived.Test.YtfhkmmicdbblnaaDoorG4
import Derived.Deep.DeepCutAuto
import Derived.Deep.RegionHeld3
namespace Go.Proofs.YtfhkmmicdbblnaaDoor
set_option linter.unusedSimpArgs false
set_option linter.unusedVariables false
open Go.RowKit Go.Maps

/-- the loops of a piece of code, in the order of the text -/
def loopsOf : Code → List Code
  | .loop c => c :: loopsOf c
  | .seq a b => loopsOf a ++ loopsOf b
  | .block _ c => loopsOf c
  | .scope c => loopsOf c
  | .cond _ a b => loopsOf a ++ loopsOf b
  | _ => []
/-- the body of the reference's third loop in Merge -/
noncomputable def rbody : Code := (((Tryd.f19.body.map loopsOf).getD [])[2]?).getD .skip
end Go.Proofs.YtfhkmmicdbblnaaDoor

