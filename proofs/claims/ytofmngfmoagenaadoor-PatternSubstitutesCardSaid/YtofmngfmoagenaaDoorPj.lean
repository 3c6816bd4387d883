/-
  The walks of Join, and of the reference's Join.
-/
import Derived.Test.YtofmngfmoagenaaDoorPc2
import Derived.Test.YtofmngfmoagenaaDoorPa
namespace Go.Proofs.YtofmngfmoagenaaDoor
set_option linter.unusedSimpArgs false
set_option linter.unusedVariables false
open Go.RowKit
open Pm

/-- the text of components -/
def joinL (xs : List (List UInt8)) : List UInt8 := 47 :: 47 :: Lib.join xs [47]
def datj (xs : List ByteArray) : List (List UInt8) := xs.map (·.data.toList)
/-- the path of components -/
def joinB (xs : List ByteArray) : ByteArray := mkB (joinL (datj xs))

def joinT (xs : List ByteArray) : ByteArray := mkB (Lib.join (datj xs) [47])
theorem joinT_size (xs : List ByteArray) : (joinT xs).size = (Lib.join (datj xs) [47]).length := mkB_size _
theorem cat_eq (xs : List ByteArray) : (⟨#[47, 47]⟩ : ByteArray) ++ joinT xs = joinB xs := by
  rw [← mkB_back ((⟨#[47, 47]⟩ : ByteArray) ++ joinT xs)]
  unfold joinB joinL
  refine congrArg mkB ?_
  rw [ByteArray.data_append, Array.toList_append]
  show 47 :: 47 :: (joinT xs).data.toList = _
  rw [joinT, mkB_data]
theorem ret_str {a b : ByteArray} (h : a = b) : Ending.returned (.string a) = .returned (.string b) := by rw [h]
theorem ret_si {k : IntKind} {a b : ByteArray} {n m : Int} (h : a = b) (h2 : n = m) : Ending.returned (.tuple #[.string a, .int k n]) = .returned (.tuple #[.string b, .int k m]) := by rw [h, h2]

set_option maxHeartbeats 400000 in
theorem rjoin_any (A : Option Addr) (c : Nat) (xs : List ByteArray) (w : World) (h : RT w A c xs) (hN : xs.length ≤ 100000) (hlen : (Lib.join (datj xs) [47]).length ≤ 100000000) :
    Calls Tryd.prog 65 #[.slice A xs.length c] w fun e w' => e = .returned (.string (joinB xs)) ∧ Below w.heap.size w w' := by
  have HJ : Hid (Calls Tryd.prog 52 #[.slice A xs.length c, .string ⟨#[47]⟩] w fun e w' => e = .returned (.string (joinT xs)) ∧ Below w.heap.size w w') := Lib.hid (join_any A c xs ⟨#[47]⟩ w h hN hlen)
  have hsz : (joinT xs).size ≤ 100000000 := by rw [joinT_size]; exact hlen
  have HC := Lib.hid (cat_eq xs)
  clear h
  go_enter Tryd.func65, Tryd.ntmps65
  go_wp2_with (go_at_call 52; refine HJ.out.mono ?_; rintro e w1 ⟨rfl, hb⟩)
  go_ret
  exact ⟨ret_str HC.out, hb⟩

/-- components that make a path -/
def joinOk (xs : List ByteArray) : Bool := decide (2 ≤ xs.length) && xs.all (fun x => comp x.data.toList)

end Go.Proofs.YtofmngfmoagenaaDoor

