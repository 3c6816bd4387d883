/-
  Partners told by place: the pairs as a table, and the lines of all three lists step by step: plain facts, no program in sight.
-/
import Derived.Test.YtfhkmmicdbblnaaD5
namespace Go.Proofs.Ytfhkmmicdbblnaa
set_option linter.unusedSimpArgs false
set_option linter.unusedVariables false

theorem prs_mem : ∀ (l : List (Option Nat)) (i n y : Nat), (n, y) ∈ prs l i ↔ i ≤ n ∧ l[n - i]? = some (some y)
  | [], i, n, y => by
    constructor
    · intro h; cases h
    · rintro ⟨_, h⟩; simp at h
  | o :: l, i, n, y => by
    have ih := prs_mem l (i + 1) n y
    have hs : i + 1 ≤ n → (o :: l)[n - i]? = l[n - (i + 1)]? := by
      intro h
      rw [show n - i = (n - (i + 1)) + 1 from by omega, List.getElem?_cons_succ]
    cases o with
    | none =>
      show (n, y) ∈ prs l (i + 1) ↔ _
      rw [ih]
      constructor
      · rintro ⟨h1, h2⟩
        exact ⟨by omega, by rw [hs h1]; exact h2⟩
      · rintro ⟨h1, h2⟩
        rcases Nat.eq_or_lt_of_le h1 with rfl | h3
        · rw [Nat.sub_self] at h2
          simp at h2
        · exact ⟨h3, by rw [← hs h3]; exact h2⟩
    | some j =>
      show (n, y) ∈ (i, j) :: prs l (i + 1) ↔ _
      rw [List.mem_cons, ih]
      constructor
      · rintro (h | ⟨h1, h2⟩)
        · cases h
          exact ⟨Nat.le_refl _, by rw [Nat.sub_self]; rfl⟩
        · exact ⟨by omega, by rw [hs h1]; exact h2⟩
      · rintro ⟨h1, h2⟩
        rcases Nat.eq_or_lt_of_le h1 with rfl | h3
        · rw [Nat.sub_self] at h2
          left
          have : j = y := by simpa using h2
          rw [this]
        · exact .inr ⟨h3, by rw [← hs h3]; exact h2⟩
theorem stab_yes {l r : List (Option Nat)} {n x y : Nat} (h1 : l[n]? = some (some x)) (h2 : r[n]? = some (some y)) : stab (l.drop n) (r.drop n) n = (n, x, y) :: stab (l.drop (n + 1)) (r.drop (n + 1)) (n + 1) := by
  obtain ⟨a1, a2⟩ := List.getElem?_eq_some_iff.1 h1
  obtain ⟨b1, b2⟩ := List.getElem?_eq_some_iff.1 h2
  rw [List.drop_eq_getElem_cons a1, List.drop_eq_getElem_cons b1, a2, b2]
  rfl
theorem stab_no {l r : List (Option Nat)} {n : Nat} {o p : Option Nat} (h1 : l[n]? = some o) (h2 : r[n]? = some p) (h : o = none ∨ p = none) : stab (l.drop n) (r.drop n) n = stab (l.drop (n + 1)) (r.drop (n + 1)) (n + 1) := by
  obtain ⟨a1, a2⟩ := List.getElem?_eq_some_iff.1 h1
  obtain ⟨b1, b2⟩ := List.getElem?_eq_some_iff.1 h2
  rw [List.drop_eq_getElem_cons a1, List.drop_eq_getElem_cons b1, a2, b2]
  cases o with
  | none => cases p <;> rfl
  | some x =>
    cases p with
    | none => rfl
    | some y => simp at h
theorem stab_end {l r : List (Option Nat)} {n : Nat} (h : l.length ≤ n) : stab (l.drop n) (r.drop n) n = [] := by
  rw [List.drop_eq_nil_of_le h]
  unfold stab
  rfl
end Go.Proofs.Ytfhkmmicdbblnaa

