/-
  Scripts as they come in: places that are any numbers: plain facts, no program in sight.
-/
import Derived.Test.YtfhkmmicdbblnaaD2
import Derived.Test.YtfhkmmicdbblnaaD3
namespace Go.Proofs.Ytfhkmmicdbblnaa
set_option linter.unusedSimpArgs false
set_option linter.unusedVariables false

section
variable {α : Type}
/-- hunks with any numbers that are a script for n lines; last: the end of the hunk ahead -/
def scrI (n : Nat) : List (Int × Int × List α) → Int → Bool
  | [], _ => true
  | h :: l, s => decide (s < h.1 ∧ h.1 ≤ h.2.1 ∧ h.2.1 ≤ n ∧ (h.1 = h.2.1 → h.2.2 ≠ [])) && scrI n l h.2.1
def natH (l : List (Int × Int × List α)) : List (Nat × Nat × List α) := l.map fun h => (h.1.toNat, h.2.1.toNat, h.2.2)
theorem scrI_nat {n : Nat} : ∀ {l : List (Int × Int × List α)} {s : Int}, -1 ≤ s → scrI n l s = true → scrOk n (natH l) (s + 1).toNat = true ∧ ∀ h ∈ l, 0 ≤ h.1 ∧ 0 ≤ h.2.1 ∧ h.1 ≤ n ∧ h.2.1 ≤ n
  | [], s, _, _ => ⟨rfl, fun h hh => by cases hh⟩
  | h :: l, s, hs, hk => by
    unfold scrI at hk
    rw [Bool.and_eq_true, decide_eq_true_eq] at hk
    obtain ⟨⟨h1, h2, h3, h4⟩, h5⟩ := hk
    obtain ⟨i1, i2⟩ := scrI_nat (by omega) h5
    refine ⟨?_, fun x hx => ?_⟩
    · show (decide _ && scrOk n (natH l) _) = true
      rw [Bool.and_eq_true, decide_eq_true_eq]
      refine ⟨⟨by simp only; omega, by simp only; omega, by simp only; omega, fun he => h4 (by simp only at he; omega)⟩, ?_⟩
      have e : h.2.1.toNat + 1 = (h.2.1 + 1).toNat := by omega
      simp only
      rw [e]
      exact i1
    · rcases List.mem_cons.1 hx with rfl | hx
      · exact ⟨by omega, by omega, by omega, by omega⟩
      · exact i2 x hx
/-- a script of natural places, as it comes in -/
theorem scrI_of {n : Nat} : ∀ {l : List (Nat × Nat × List α)} {s : Int} {m : Nat}, s < (m : Int) → scrOk n l m = true → scrI n (l.map fun h => ((h.1 : Int), (h.2.1 : Int), h.2.2)) s = true
  | [], s, m, _, _ => rfl
  | h :: l, s, m, hs, hk => by
    unfold scrOk at hk
    rw [Bool.and_eq_true, decide_eq_true_eq] at hk
    obtain ⟨⟨h1, h2, h3, h4⟩, h5⟩ := hk
    show (decide _ && scrI n _ _) = true
    rw [Bool.and_eq_true, decide_eq_true_eq]
    exact ⟨⟨by simp only; omega, by simp only; omega, by simp only; omega, fun he => h4 (by simp only at he; omega)⟩, scrI_of (m := h.2.1 + 1) (by simp only; omega) h5⟩
theorem nat_back (l : List (Nat × Nat × List α)) : natH (l.map fun h => ((h.1 : Int), (h.2.1 : Int), h.2.2)) = l := by
  unfold natH
  rw [List.map_map]
  conv => rhs; rw [← List.map_id l]
  apply List.map_congr_left
  intro h _
  rfl
end
/-- all but the last end with a newline -/
def nlOk : List (List UInt8) → Bool
  | [] => true
  | [_] => true
  | x :: y :: l => endNl x && nlOk (y :: l)
theorem lines_nl : ∀ (l : List (List UInt8)), linesOk l = (l.all isLn && nlOk l)
  | [] => rfl
  | [x] => by simp [linesOk, nlOk]
  | x :: y :: l => by
    show (isLn x && (endNl x && linesOk (y :: l))) = ((isLn x && (y :: l).all isLn) && (endNl x && nlOk (y :: l)))
    rw [lines_nl (y :: l)]
    cases isLn x <;> cases endNl x <;> cases (y :: l).all isLn <;> cases nlOk (y :: l) <;> rfl
/-- what a script makes of a text's lines are lines if the script's own are -/
theorem apl_mem {α : Type} (a : List α) : ∀ (l : List (Nat × Nat × List α)) (t : Nat), ∀ x ∈ apl a l t, x ∈ a ∨ ∃ h ∈ l, x ∈ h.2.2
  | [], t, x, h => .inl (List.mem_of_mem_drop h)
  | h :: l, t, x, hx => by
    have hx' : x ∈ (a.drop t).take (h.1 - t) ++ (h.2.2 ++ apl a l h.2.1) := hx
    rcases List.mem_append.1 hx' with h1 | h1
    · exact .inl (List.mem_of_mem_drop (List.mem_of_mem_take h1))
    · rcases List.mem_append.1 h1 with h2 | h2
      · exact .inr ⟨h, by simp, h2⟩
      · rcases apl_mem a l h.2.1 x h2 with h3 | ⟨g, g1, g2⟩
        · exact .inl h3
        · exact .inr ⟨g, by simp [g1], g2⟩
theorem mem_apl {α : Type} (a : List α) : ∀ (l : List (Nat × Nat × List α)) (t : Nat), ∀ h ∈ l, ∀ x ∈ h.2.2, x ∈ apl a l t
  | [], t, h, hh, _, _ => by cases hh
  | g :: l, t, h, hh, x, hx => by
    show x ∈ (a.drop t).take (g.1 - t) ++ (g.2.2 ++ apl a l g.2.1)
    rcases List.mem_cons.1 hh with rfl | hh
    · simp [hx]
    · have := mem_apl a l g.2.1 h hh x hx
      simp [this]
theorem apl_lines {a : List (List UInt8)} {l : List (Nat × Nat × List (List UInt8))} (ha : a.all isLn = true) : (apl a l 0).all isLn = l.all (fun h => h.2.2.all isLn) := by
  rw [Bool.eq_iff_iff, List.all_eq_true, List.all_eq_true]
  constructor
  · intro h g hg
    exact List.all_eq_true.2 fun x hx => h x (mem_apl a l 0 g hg x hx)
  · intro h x hx
    rcases apl_mem a l 0 x hx with h1 | ⟨g, g1, g2⟩
    · exact List.all_eq_true.1 ha x h1
    · exact List.all_eq_true.1 (h g g1) x g2
end Go.Proofs.Ytfhkmmicdbblnaa

