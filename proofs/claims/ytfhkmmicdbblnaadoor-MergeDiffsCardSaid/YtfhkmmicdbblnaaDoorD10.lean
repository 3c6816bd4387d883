/-
  The program's loop over partners makes the script: plain facts, no program in sight.
-/
import Derived.Test.YtfhkmmicdbblnaaDoorD2
namespace Go.Proofs.YtfhkmmicdbblnaaDoor
set_option linter.unusedSimpArgs false
set_option linter.unusedVariables false

section
variable {α : Type}
/-- the hunks that the loop over partners makes -/
def dlp (b : List α) : List (Option Nat) → Nat → Nat → Nat → List (Nat × Nat × List α)
  | [], _, _, _ => []
  | none :: l, i, f, t => dlp b l (i + 1) f t
  | some j :: l, i, f, t => (if f < i ∨ t < j then [(f, i, (b.drop t).take (j - t))] else []) ++ dlp b l (i + 1) (i + 1) (j + 1)
theorem dlp_scr (b : List α) : ∀ (l : List (Option Nat)) (i f t : Nat), dlp b l i f t = scr b (prs l i) f t
  | [], _, _, _ => rfl
  | none :: l, i, f, t => dlp_scr b l (i + 1) f t
  | some j :: l, i, f, t => by
    show _ ++ dlp b l (i + 1) (i + 1) (j + 1) = _ ++ scr b (prs l (i + 1)) (i + 1) (j + 1)
    rw [dlp_scr b l]
theorem prs_last : ∀ (l : List (Option Nat)) (i n : Nat), prs (l ++ [some n]) i = prs l i ++ [(i + l.length, n)]
  | [], i, n => rfl
  | none :: l, i, n => by
    show prs (l ++ [some n]) (i + 1) = prs l (i + 1) ++ _
    rw [prs_last l, List.length_cons, show i + 1 + l.length = i + (l.length + 1) from by omega]
  | some j :: l, i, n => by
    show (i, j) :: prs (l ++ [some n]) (i + 1) = (i, j) :: prs l (i + 1) ++ _
    rw [prs_last l, List.length_cons, show i + 1 + l.length = i + (l.length + 1) from by omega]
    rfl
theorem dlp_diff [DecidableEq α] (a b : List α) : dlp b (comm a b 0 ++ [some b.length]) 0 0 0 = diffL a b := by
  rw [dlp_scr, prs_last, comm_len, Nat.zero_add]
  rfl
/-- a partner as the program keeps it -/
def pI : Option Nat → Int
  | none => -1
  | some j => j
theorem pI_none {o : Option Nat} : pI o < 0 ↔ o = none := by
  cases o with
  | none => simp [pI]
  | some j => simp [pI]
/-- the hunks have places within the lists, and at most one more hunk than pairs -/
theorem scr_len (b : List α) : ∀ (l : List (Nat × Nat)) (f t : Nat), (scr b l f t).length ≤ l.length
  | [], _, _ => Nat.le_refl _
  | p :: l, f, t => by
    show (_ ++ scr b l (p.1 + 1) (p.2 + 1)).length ≤ _
    rw [List.length_append, List.length_cons]
    have := scr_len b l (p.1 + 1) (p.2 + 1)
    split
    · simp only [List.length_cons, List.length_nil]; omega
    · simp only [List.length_nil]; omega
theorem prs_len : ∀ (l : List (Option Nat)) (i : Nat), (prs l i).length ≤ l.length
  | [], _ => Nat.le_refl _
  | none :: l, i => by
    show (prs l (i + 1)).length ≤ _
    have := prs_len l (i + 1)
    rw [List.length_cons]; omega
  | some j :: l, i => by
    show ((i, j) :: prs l (i + 1)).length ≤ _
    have := prs_len l (i + 1)
    rw [List.length_cons, List.length_cons]; omega
theorem diff_len [DecidableEq α] (a b : List α) : (diffL a b).length ≤ a.length + 1 := by
  have h1 := scr_len b (pairs a b 0 0 ++ [(a.length, b.length)]) 0 0
  have h2 := prs_len (comm a b 0) 0
  rw [comm_len] at h2
  unfold diffL pairs at *
  rw [List.length_append] at h1
  simp only [List.length_cons, List.length_nil] at h1
  omega
end
end Go.Proofs.YtfhkmmicdbblnaaDoor

