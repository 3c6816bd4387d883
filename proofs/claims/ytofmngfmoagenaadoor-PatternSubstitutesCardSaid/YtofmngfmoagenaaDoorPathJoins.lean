/-
  PathJoins returns true.
-/
import Derived.Test.YtofmngfmoagenaaDoorPj
import Derived.Test.YtofmngfmoagenaaDoorAp
namespace Go.Proofs.YtofmngfmoagenaaDoor
set_option linter.unusedSimpArgs false
set_option linter.unusedVariables false
open Go.RowKit
open Pm

theorem lens_le {xs : List ByteArray} {m : Nat} (h : ∀ x ∈ xs, x.size ≤ m) : Lib.lens (datj xs) ≤ xs.length * m := by
  induction xs with
  | nil => simp [datj, Lib.lens]
  | cons x xs ih =>
    have h1 := ih fun y hy => h y (List.mem_cons_of_mem _ hy)
    have h2 := h x (List.mem_cons_self ..)
    have e : Lib.lens (datj (x :: xs)) = x.data.toList.length + Lib.lens (datj xs) := by simp [datj, Lib.lens]
    rw [e, List.length_cons, Nat.succ_mul, ← Lib.size_eq]
    omega
theorem join_le {xs : List ByteArray} {m : Nat} (h : ∀ x ∈ xs, x.size ≤ m) : (Lib.join (datj xs) [47]).length ≤ xs.length * (m + 1) := by
  cases xs with
  | nil => simp [datj, Lib.join_nil]
  | cons x xs =>
    have h1 := lens_le h
    have e : datj (x :: xs) = x.data.toList :: datj xs := rfl
    rw [e, Lib.join_length, ← e]
    have e2 : (datj xs).length = xs.length := by simp [datj]
    rw [e2]
    rw [List.length_cons, Nat.succ_mul] at h1
    have e3 : (xs.length + 1) * (m + 1) = xs.length * m + xs.length + m + 1 := by rw [Nat.add_mul, Nat.mul_add]; omega
    show _ ≤ (xs.length + 1) * (m + 1)
    rw [e3]
    simp only [List.length_cons, List.length_nil, Nat.zero_add, Nat.one_mul]
    omega

end Go.Proofs.YtofmngfmoagenaaDoor

