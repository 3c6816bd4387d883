/-
  Texts joined with nothing between them.
-/
import Derived.Test.YtfhkmmicdbblnaaDoorL7
namespace Go.Proofs.YtfhkmmicdbblnaaDoor
set_option linter.unusedSimpArgs false
set_option linter.unusedVariables false
open Go.RowKit

theorem join_flat : ∀ (xs : List (List UInt8)), Lib.join xs [] = xs.flatten
  | [] => rfl
  | x :: r => by
    rw [Lib.join_cons]
    unfold Lib.joinTail
    simp
/-- texts in one -/
def catB (xs : List ByteArray) : ByteArray := mkB (xs.map dT).flatten
theorem catB_data (xs : List ByteArray) : dT (catB xs) = (xs.map dT).flatten := mkB_data _
theorem catB_app (xs ys : List ByteArray) : dT (catB (xs ++ ys)) = dT (catB xs) ++ dT (catB ys) := by
  rw [catB_data, catB_data, catB_data, List.map_append, List.flatten_append]
theorem cat_lB (s : ByteArray) : catB (lB s) = s := by
  unfold catB
  rw [show (lB s).map dT = lns s.data.toList from lB_data s, lns_flat]
  exact mkB_back s
theorem join0_any (A : Option Addr) (c : Nat) (xs : List ByteArray) (w : World) (h : RT w A c xs) (hN : xs.length ≤ 100000) (hlen : (catB xs).size ≤ 100000000) :
    Calls Tryd.prog 15 #[.slice A xs.length c, .string ⟨#[]⟩] w fun e w' => e = .returned (.string (catB xs)) ∧ Below w.heap.size w w' := by
  have e : Lib.join (xs.map (·.data.toList)) (⟨#[]⟩ : ByteArray).data.toList = (xs.map dT).flatten := join_flat _
  refine (join_any A c xs ⟨#[]⟩ w h hN (by rw [e, ← mkB_size]; exact hlen)).mono fun e' w' ⟨he, hw⟩ => ⟨?_, hw⟩
  rw [he, e]
  rfl
theorem str_self (s : ByteArray) : (s.toList == s.toList) = true := by simp
theorem long_one {s : ByteArray} (h : longB [s] = false) : s.size ≤ 1000 := long_no h s List.mem_cons_self
theorem RT.oneS {w : World} {x : ByteArray} {t : TypeId} {g : Nat} (hg : g = w.heap.size) : RT (w.alloc (.cells #[.string x] t)) (some ⟨g, 0, none⟩) ([x] : List ByteArray).length [x] := RT.one1 hg
end Go.Proofs.YtfhkmmicdbblnaaDoor

