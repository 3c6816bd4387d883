/-
  How many lines a text has at most.
-/
import Derived.Test.YtfhkmmicdbblnaaL14
namespace Go.Proofs.Ytfhkmmicdbblnaa
set_option linter.unusedSimpArgs false
set_option linter.unusedVariables false
open Go.RowKit

/-- the count of line ends -/
def nlC (s : ByteArray) : Nat := s.data.toList.count 10
theorem nlC_app (a b : ByteArray) : nlC (a ++ b) = nlC a + nlC b := by
  unfold nlC
  rw [← List.count_append]
  simp
theorem lns_cnt : ∀ l : List UInt8, (lns l).length ≤ l.count 10 + 1
  | [] => by simp [lns]
  | c :: l => by
    have ih := lns_cnt l
    by_cases e : c = 10
    · subst e
      rw [lns_nl, List.count_cons_self, List.length_cons]
      omega
    · rw [lns_cons e, List.count_cons_of_ne (by simpa using e)]
      cases hl : lns l with
      | nil => simp
      | cons x xs => rw [hl] at ih; simpa using ih
theorem lB_cnt (s : ByteArray) : (lB s).length ≤ nlC s + 1 := by
  unfold lB nlC
  rw [List.length_map]
  exact lns_cnt _
end Go.Proofs.Ytfhkmmicdbblnaa

