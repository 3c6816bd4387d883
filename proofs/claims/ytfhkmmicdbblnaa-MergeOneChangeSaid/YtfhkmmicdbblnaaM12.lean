/-
  What the loop of Merge keeps, plain.
-/
import Derived.Test.YtfhkmmicdbblnaaD6
import Derived.Test.YtfhkmmicdbblnaaD11
import Derived.Test.YtfhkmmicdbblnaaD12
namespace Go.Proofs.Ytfhkmmicdbblnaa
set_option linter.unusedSimpArgs false
set_option linter.unusedVariables false

section
variable {α : Type}
theorem seg_single {A : List α} {i : Nat} {u : α} (h : A[i]? = some u) : seg A i (i + 1) = [u] := by
  rw [seg_split A h (Nat.lt_succ_self i), seg_nil]
theorem mem_len {f : Pc α → List α} {ps : List (Pc α)} {p : Pc α} (h : p ∈ ps) : (f p).length ≤ (ps.flatMap f).length := by
  induction ps with
  | nil => cases h
  | cons q ps ih =>
    rw [List.flatMap_cons, List.length_append]
    rcases List.mem_cons.1 h with rfl | h
    · omega
    · have := ih h; omega
end
section
variable {α : Type} [DecidableEq α] [Inhabited α]
def GI (O A B : List α) (k : Nat) (f : Nat × Nat × Nat) (ps : List (Pc α)) : Prop :=
  mrg O A B = mrgF O A B (stab ((comm O A 0).drop k) ((comm O B 0).drop k) k) f ps ∧ Stb O A B f (stab ((comm O A 0).drop k) ((comm O B 0).drop k) k) ∧ MI O A B f ps ∧ ps.length ≤ 2 * k
theorem GI.start (O A B : List α) : GI O A B 0 (0, 0, 0) [] :=
  ⟨rfl, mrg_stb O A B, ⟨⟨rfl, rfl, rfl⟩, fun p hp => (by cases hp), trivial, fun p hp => (by cases hp), fun h => absurd h (Nat.lt_irrefl 0)⟩, Nat.le_refl _⟩
theorem GI.skip {O A B : List α} {k : Nat} {f : Nat × Nat × Nat} {ps : List (Pc α)} (h : GI O A B k f ps) {o p : Option Nat} (h1 : (comm O A 0)[k]? = some o) (h2 : (comm O B 0)[k]? = some p) (hn : o = none ∨ p = none) : GI O A B (k + 1) f ps := by
  obtain ⟨a1, a2, a3, a4⟩ := h
  rw [stab_no h1 h2 hn] at a1 a2
  exact ⟨a1, a2, a3, by omega⟩
theorem GI.step {O A B : List α} {k : Nat} {f : Nat × Nat × Nat} {ps : List (Pc α)} (h : GI O A B k f ps) {x y : Nat} (h1 : (comm O A 0)[k]? = some (some x)) (h2 : (comm O B 0)[k]? = some (some y)) :
    (f.1 ≤ k ∧ f.2.1 ≤ x ∧ f.2.2 ≤ y ∧ k < O.length ∧ x < A.length ∧ y < B.length) ∧
    (¬ (0 < k ∧ f = (k, x, y)) → GI O A B (k + 1) (k + 1, x + 1, y + 1) (ps ++ diffP O A B f (k, x, y) ++ [⟨1, seg O k (k + 1), seg A x (x + 1), seg B y (y + 1)⟩])) ∧
    (0 < k ∧ f = (k, x, y) → ∃ qs p, ps = qs ++ [p] ∧ (p.o.length ≤ O.length ∧ p.a.length ≤ A.length ∧ p.b.length ≤ B.length) ∧ GI O A B (k + 1) (k + 1, x + 1, y + 1) (qs ++ [⟨p.kind, p.o ++ seg O k (k + 1), p.a ++ seg A x (x + 1), p.b ++ seg B y (y + 1)⟩])) := by
  obtain ⟨a1, a2, a3, a4⟩ := h
  rw [stab_yes h1 h2] at a1 a2
  obtain ⟨b1, b2, b3, ⟨u, g1, g2, g3⟩, b4, b5⟩ := a2
  simp only at b1 b2 b3 g1 g2 g3 b4 b5
  refine ⟨⟨b1, b2, b3, (List.getElem?_eq_some_iff.1 g1).1, (List.getElem?_eq_some_iff.1 g2).1, (List.getElem?_eq_some_iff.1 g3).1⟩, fun hj => ?_, fun hj => ?_⟩
  · rw [seg_single g1, seg_single g2, seg_single g3]
    unfold mrgF at a1
    simp only [g1, g2, g3, Option.getD_some] at a1
    rw [if_neg hj] at a1
    refine ⟨a1, b5, a3.fresh (s := (k, x, y)) b1 b2 b3 b4 g1 g2 g3, ?_⟩
    have : (diffP O A B f (k, x, y)).length ≤ 1 := by unfold diffP; split <;> simp
    simp only [List.length_append, List.length_singleton]
    omega
  · rw [seg_single g1, seg_single g2, seg_single g3]
    unfold mrgF at a1
    simp only [g1, g2, g3, Option.getD_some] at a1
    rw [if_pos hj] at a1
    obtain ⟨hk, rfl⟩ := hj
    have hne := a3.2.2.2.2 hk
    obtain ⟨qs, p, rfl⟩ : ∃ qs p, ps = qs ++ [p] := ⟨ps.dropLast, ps.getLast hne, (List.dropLast_concat_getLast hne).symm⟩
    have hm := a3.joined (u := u) hk g1 g2 g3
    rw [joinP_app] at a1 hm
    obtain ⟨c1, c2, c3⟩ := a3.1
    have l1 := mem_len (f := (·.o)) (p := p) (ps := qs ++ [p]) (by simp)
    have l2 := mem_len (f := (·.a)) (p := p) (ps := qs ++ [p]) (by simp)
    have l3 := mem_len (f := (·.b)) (p := p) (ps := qs ++ [p]) (by simp)
    rw [c1, List.length_take] at l1
    rw [c2, List.length_take] at l2
    rw [c3, List.length_take] at l3
    refine ⟨qs, p, rfl, ⟨by omega, by omega, by omega⟩, a1, b5, hm, ?_⟩
    simp only [List.length_append, List.length_singleton] at a4 ⊢
    omega
theorem GI.done {O A B : List α} {f : Nat × Nat × Nat} {ps : List (Pc α)} (h : GI O A B O.length f ps) : (f.1 ≤ O.length ∧ f.2.1 ≤ A.length ∧ f.2.2 ≤ B.length) ∧ mrg O A B = ps ++ diffP O A B f (O.length, A.length, B.length) := by
  obtain ⟨a1, a2, _, _⟩ := h
  rw [stab_end (by rw [comm_len]; exact Nat.le_refl _)] at a1 a2
  exact ⟨⟨a2.1, a2.2.1, a2.2.2.1⟩, a1⟩
theorem mrg_len (O A B : List α) : ∀ (l : List (Nat × Nat × Nat)) (f : Nat × Nat × Nat) (ps : List (Pc α)), (mrgF O A B l f ps).length ≤ ps.length + 2 * l.length + 1
  | [], f, ps => by
    unfold mrgF
    have : (diffP O A B f (O.length, A.length, B.length)).length ≤ 1 := by unfold diffP; split <;> simp
    rw [List.length_append]
    simp only [List.length_nil]
    omega
  | s :: l, f, ps => by
    unfold mrgF
    refine Nat.le_trans (mrg_len O A B l _ _) ?_
    rw [List.length_cons]
    split
    · have hj : ∀ (qs : List (Pc α)) (a b c : α), (joinP qs a b c).length ≤ qs.length := by
        intro qs
        induction qs with
        | nil => intro a b c; simp [joinP]
        | cons q qs ih =>
          intro a b c
          cases qs with
          | nil => simp [joinP]
          | cons r qs => show (joinP (r :: qs) a b c).length + 1 ≤ _; have := ih a b c; simp at this ⊢; omega
      have := hj ps (O[s.1]?.getD default) (A[s.2.1]?.getD default) (B[s.2.2]?.getD default)
      omega
    · have : (diffP O A B f s).length ≤ 1 := by unfold diffP; split <;> simp
      simp only [List.length_append, List.length_singleton]
      omega
end
end Go.Proofs.Ytfhkmmicdbblnaa

