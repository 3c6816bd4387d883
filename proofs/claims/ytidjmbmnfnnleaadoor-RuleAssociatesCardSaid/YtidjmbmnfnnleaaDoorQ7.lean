/-
  The words of the statements on patterns: equal, small, copied, awake.
-/
import Derived.Test.YtidjmbmnfnnleaaDoorQ6
import Derived.Deep.RegionHeld3
namespace Go.Proofs.YtidjmbmnfnnleaaDoor
set_option linter.unusedSimpArgs false
set_option linter.unusedVariables false
open Go.RowKit
open Pm

def sumB (xs : List ByteArray) : Nat := (xs.map (·.size)).sum
def smallB (xs : List ByteArray) : Bool := decide (xs.length ≤ 20) && decide (sumB xs ≤ 400)
theorem sum_step {xs : List ByteArray} {k : Nat} {x : ByteArray} (h : xs[k]? = some x) : sumB (xs.take (k + 1)) = sumB (xs.take k) + x.size := by
  unfold sumB
  rw [List.take_add_one, h, List.map_append, List.sum_append]
  simp
theorem sum_mem {xs : List ByteArray} {x : ByteArray} (h : x ∈ xs) : x.size ≤ sumB xs := by
  induction xs with
  | nil => cases h
  | cons y xs ih =>
    have e : sumB (y :: xs) = y.size + sumB xs := by simp [sumB]
    rcases List.mem_cons.1 h with rfl | h
    · omega
    · have := ih h
      omega
theorem small_yes {xs : List ByteArray} (h : smallB xs = true) : xs.length ≤ 20 ∧ sumB xs ≤ 400 ∧ ∀ x ∈ xs, x.size ≤ 400 := by
  unfold smallB at h
  rw [Bool.and_eq_true, decide_eq_true_iff, decide_eq_true_iff] at h
  exact ⟨h.1, h.2, fun x hx => Nat.le_trans (sum_mem hx) h.2⟩

/-- the pattern and the path of the sanity check -/
def aT : ByteArray := ⟨#[47, 47, 97, 47, 42, 46, 112, 115, 100, 47, 46, 46, 46]⟩
def aP : ByteArray := ⟨#[47, 47, 97, 47, 120, 46, 112, 115, 100, 47, 98, 47, 99]⟩
def aXs : List ByteArray := [⟨#[97]⟩, ⟨#[42, 46, 112, 115, 100]⟩]
def aCs : List ByteArray := [⟨#[120]⟩, ⟨#[98, 47, 99]⟩]
theorem a1 : parseN aT = 0 := by decide +kernel
theorem a2 : ppartsB aT = aXs := by decide +kernel
theorem a3 : prestB aT = true := by decide +kernel
theorem a4 : matchOk mpOk aXs true aP = true := by decide +kernel
theorem a5 : capsB stB mpCap aXs true aP = aCs := by decide +kernel

end Go.Proofs.YtidjmbmnfnnleaaDoor

