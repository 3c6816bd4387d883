/-
  The map of lines to numbers, as read: every key's place in a list. No program in sight.
-/
import Derived.Maps.OwnSet
import Derived.Test.YtfhkmmicdbblnaaDoorME
namespace Go.Proofs.YtfhkmmicdbblnaaDoor
open Go.Maps
set_option linter.unusedSimpArgs false
set_option linter.unusedVariables false

/-- the map holds each line of ks with its place, and nothing else -/
def MK {H : Type} (D : DataW H) (ks : List (List UInt8)) : Prop :=
  Tidy D ∧ Maps.size D = ks.length ∧ ∀ x, Maps.has D (.string x) = (idx x ks).isSome ∧ ∀ n, idx x ks = some n → ∀ z, D.atKey (.string x) z = .lit (.int .i64 (n : Int))
theorem MK.nil {H : Type} : MK (.map [] : DataW H) [] :=
  ⟨⟨[], rfl, List.Pairwise.nil⟩, rfl, fun x => ⟨rfl, fun n h => by cases h⟩⟩
theorem MK.old {H : Type} {D : DataW H} {ks : List (List UInt8)} (h : MK D ks) {x : List UInt8} (hx : Maps.has D (.string x) = true) : key ks x = ks ∧ ∀ z, D.atKey (.string x) z = .lit (.int .i64 (num ks x : Int)) := by
  rw [(h.2.2 x).1] at hx
  obtain ⟨n, hn⟩ := Option.isSome_iff_exists.1 hx
  unfold key num
  rw [hn]
  exact ⟨rfl, (h.2.2 x).2 n hn⟩
theorem MK.new {H : Type} {D : DataW H} {ks : List (List UInt8)} (h : MK D ks) {x : List UInt8} (hx : Maps.has D (.string x) = false) : num ks x = ks.length ∧ MK (D.put (.string x) (.lit (.int .i64 (ks.length : Int)))) (key ks x) := by
  have hx2 := hx
  rw [(h.2.2 x).1] at hx2
  have hn : idx x ks = none := by simpa using hx2
  have hm : IsMap D := by obtain ⟨es, rfl, _⟩ := h.1; exact ⟨es, rfl⟩
  have hkey : key ks x = ks ++ [x] := by unfold key; rw [hn]
  refine ⟨by unfold num; rw [hn]; rfl, h.1.put (k := .string x) trivial _, ?_, ?_⟩
  · rw [size_put h.1, hx, hkey, h.2.1]
    simp
  · intro y
    by_cases e : y = x
    · subst e
      rw [has_put_same (k := Lit.string _) hm trivial, hkey, idx_new hn]
      refine ⟨rfl, fun n hq z => ?_⟩
      rw [atKey_put_same (k := Lit.string _) hm trivial]
      cases hq
      rfl
    · have hne : (Lit.string y : Lit) ≠ .string x := fun q => e (by cases q; rfl)
      rw [has_put_other hne, hkey, (h.2.2 y).1]
      have hi : idx y (ks ++ [x]) = idx y ks := by
        cases hq : idx y ks with
        | some n => exact idx_app _ hq
        | none =>
          cases hr : idx y (ks ++ [x]) with
          | none => rfl
          | some n =>
            have g := (idx_some hr).1
            rcases Nat.lt_or_ge n ks.length with h1 | h1
            · rw [List.getElem?_append_left h1] at g
              exact absurd g (idx_none hq n)
            · rw [List.getElem?_append_right h1] at g
              have h2 : y ∈ [x] := List.mem_of_getElem? g
              exact absurd (by simpa using h2) e
      rw [hi]
      refine ⟨rfl, fun n hq z => ?_⟩
      rw [atKey_put_other hne]
      exact (h.2.2 y).2 n hq z
end Go.Proofs.YtfhkmmicdbblnaaDoor

