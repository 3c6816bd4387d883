/-
  MergeBack returns true.
-/
import Derived.Test.YtfhkmmicdbblnaaDoorB1
namespace Go.Proofs.YtfhkmmicdbblnaaDoor
set_option linter.unusedSimpArgs false
set_option linter.unusedVariables false
open Go.RowKit

theorem longQ {ts : List ByteArray} {q : Bool} (hq : longB ts = q) : Hid (∀ A c W, RT W A c ts → Calls Tryd.prog 7 #[.slice A ts.length c] W fun e w' => e = .returned (.bool q) ∧ W = w') := Lib.hid (by subst hq; exact fun A c W h => long_any A c ts W h)
theorem long_two {a b : ByteArray} (h : longB [a, b] = false) : a.size ≤ 1000 ∧ b.size ≤ 1000 := ⟨long_no h a (by simp), long_no h b (by simp)⟩

end Go.Proofs.YtfhkmmicdbblnaaDoor

