/-
  PatternParses returns true.
-/
import Derived.Test.YtofmngfmoagenaaDoorQ7
namespace Go.Proofs.YtofmngfmoagenaaDoor
set_option linter.unusedSimpArgs false
set_option linter.unusedVariables false
open Go.RowKit
open Pm

def pX (s : ByteArray) : List ByteArray := if parseN s = 0 then ppartsB s else []
def pR (s : ByteArray) : Bool := if parseN s = 0 then prestB s else false
theorem one_of {s : ByteArray} {w w' : World} {e : Ending} (h : RetPN w (ppartsB s) (prestB s) (parseN s) e w') : RetP w (pX s) (pR s) (parseN s) e w' := by
  by_cases h0 : parseN s = 0
  · have := h.1 h0
    unfold pX pR
    rw [if_pos h0, if_pos h0, h0]
    exact this
  · have := h.2 h0
    unfold pX pR
    rw [if_neg h0, if_neg h0]
    exact this

end Go.Proofs.YtofmngfmoagenaaDoor

