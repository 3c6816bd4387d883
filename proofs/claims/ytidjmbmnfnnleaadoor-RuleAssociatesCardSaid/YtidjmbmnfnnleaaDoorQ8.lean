/-
  The walks of Text, and Format.
-/
import Derived.Test.YtidjmbmnfnnleaaDoorQ7
namespace Go.Proofs.YtidjmbmnfnnleaaDoor
set_option linter.unusedSimpArgs false
set_option linter.unusedVariables false
open Go.RowKit
open Pm

/-- the text of a pattern -/
def textB (xs : List ByteArray) (r : Bool) : ByteArray := if r = true then (⟨#[47, 47]⟩ ++ joinT xs) ++ ⟨#[47, 46, 46, 46]⟩ else ⟨#[47, 47]⟩ ++ joinT xs

/-- what Format hands back -/
def formatB (xs : List ByteArray) (r : Bool) : ByteArray := if checkP xs r = 0 then textB xs r else ⟨#[]⟩

end Go.Proofs.YtidjmbmnfnnleaaDoor

