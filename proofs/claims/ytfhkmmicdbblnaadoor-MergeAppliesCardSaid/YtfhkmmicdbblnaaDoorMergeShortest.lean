/-
  MergeShortest returns true.
-/
import Derived.Test.YtfhkmmicdbblnaaDoorB2
import Derived.Test.YtfhkmmicdbblnaaDoorMergeBack
namespace Go.Proofs.YtfhkmmicdbblnaaDoor
set_option linter.unusedSimpArgs false
set_option linter.unusedVariables false
open Go.RowKit

/-- the hunks are few and short enough -/
def fineB (hs : List (Int × Int × List ByteArray)) : Bool := hs.all fun h => decide (h.2.2.length ≤ 20) && !longB h.2.2
theorem fine_all {hs : List (Int × Int × List ByteArray)} (h : fineB hs = true) : ∀ g ∈ hs, g.2.2.length ≤ 20 ∧ ∀ x ∈ g.2.2, x.size ≤ 1000 := by
  intro g hg
  have := List.all_eq_true.1 h g hg
  rw [Bool.and_eq_true, decide_eq_true_eq] at this
  exact ⟨this.1, long_no (by simpa using this.2)⟩
theorem few_alone {a : ByteArray} {b : ByteArray} (h : fewB [a, b] = true) : fewB [a, b] = true := h

end Go.Proofs.YtfhkmmicdbblnaaDoor

