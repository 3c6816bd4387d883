/-
  The walks of the reference's Compare and Under, of Under, and of the helper same.
-/
import Derived.Test.YtofmngfmoagenaaDoorPc1
namespace Go.Proofs.YtofmngfmoagenaaDoor
set_option linter.unusedSimpArgs false
set_option linter.unusedVariables false
open Go.RowKit
open Pm

def dat (xs : List ByteArray) : List (List UInt8) := xs.map (·.data.toList)
theorem dat_len (xs : List ByteArray) : (dat xs).length = xs.length := List.length_map _
theorem dat_get {xs : List ByteArray} {k : Nat} {x : ByteArray} (h : xs[k]? = some x) : (dat xs)[k]? = some x.data.toList := by simp [dat, h]
theorem dat_inj {a b : List ByteArray} (h : dat a = dat b) : a = b := bytes_inj h
theorem dat_take (xs : List ByteArray) (n : Nat) : dat (xs.take n) = (dat xs).take n := List.map_take

theorem cc_drop (a b : List (List UInt8)) (k : Nat) (x y : List UInt8) (ha : a[k]? = some x) (hb : b[k]? = some y) (h : ccmp a b = ccmp (a.drop k) (b.drop k)) :
    (Lib.compareBytes x y = 0 → ccmp a b = ccmp (a.drop (k + 1)) (b.drop (k + 1))) ∧ (Lib.compareBytes x y ≠ 0 → ccmp a b = Lib.compareBytes x y) := by
  obtain ⟨ha1, rfl⟩ := List.getElem?_eq_some_iff.1 ha
  obtain ⟨hb1, rfl⟩ := List.getElem?_eq_some_iff.1 hb
  rw [List.drop_eq_getElem_cons ha1, List.drop_eq_getElem_cons hb1] at h
  constructor
  · intro e
    rw [h, ccmp, if_pos e]
  · intro e
    rw [h, ccmp, if_neg e]
theorem cc_end (a b : List (List UInt8)) (k : Nat) (h : ccmp a b = ccmp (a.drop k) (b.drop k)) (hk : k = a.length ∨ k = b.length) (hka : k ≤ a.length) (hkb : k ≤ b.length) :
    ccmp a b = Lib.compareInt (a.length : Int) (b.length : Int) := by
  rw [h]
  unfold Lib.compareInt
  by_cases ea : k = a.length
  · have : a.drop k = [] := List.drop_of_length_le (by omega)
    rw [this]
    by_cases eb : k = b.length
    · have : b.drop k = [] := List.drop_of_length_le (by omega)
      rw [this, if_neg (by omega), if_neg (by omega)]
      rfl
    · rw [List.drop_eq_getElem_cons (show k < b.length by omega), if_pos (by omega)]
      rfl
  · have eb : k = b.length := by omega
    have : b.drop k = [] := List.drop_of_length_le (by omega)
    rw [this, List.drop_eq_getElem_cons (show k < a.length by omega), if_neg (by omega), if_pos (by omega)]
    rfl
theorem compareBytes_range : ∀ (a b : List UInt8), -1 ≤ Lib.compareBytes a b ∧ Lib.compareBytes a b ≤ 1
  | [], [] => by decide
  | [], _ :: _ => by simp [Lib.compareBytes]
  | _ :: _, [] => by simp [Lib.compareBytes]
  | x :: a, y :: b => by
    unfold Lib.compareBytes
    split
    · decide
    · split
      · decide
      · exact compareBytes_range a b
theorem ccmp_self (a : List (List UInt8)) : ccmp a a = 0 := by
  induction a with
  | nil => rfl
  | cons x a ih => rw [ccmp, if_pos (compareBytes_self x), ih]
theorem ccmp_zero {a b : List (List UInt8)} (h : ccmp a b = 0) : a = b := by
  induction a generalizing b with
  | nil => cases b with
    | nil => rfl
    | cons y b => simp [ccmp] at h
  | cons x a ih =>
    cases b with
    | nil => simp [ccmp] at h
    | cons y b =>
      unfold ccmp at h
      split at h
      · rename_i e
        rw [compareBytes_eq e, ih h]
      · rename_i e
        exact absurd h e

/-- ys lies below xs -/
def underB (xs ys : List ByteArray) : Bool := decide (xs.length < ys.length ∧ ys.take xs.length = xs)

def RetBE (w : World) (b : Bool) (n : Int) (e : Ending) (w' : World) : Prop := e = .returned (.tuple #[.bool b, .int .i64 n]) ∧ Below w.heap.size w w'

/-- two lists of texts, held one against the other -/
theorem take_eq_step {α : Type} {a b : List α} {k : Nat} {x y : α} (ha : a[k]? = some x) (hb : b[k]? = some y) (h : a.take k = b.take k) (e : x = y) : a.take (k + 1) = b.take (k + 1) := by
  rw [List.take_add_one, List.take_add_one, ha, hb, h, e]

end Go.Proofs.YtofmngfmoagenaaDoor

