/-
  The pieces of a merge of three lists: plain facts, no program in sight.
-/
import Derived.Test.YtfhkmmicdbblnaaD2
namespace Go.Proofs.Ytfhkmmicdbblnaa
set_option linter.unusedSimpArgs false
set_option linter.unusedVariables false

/-- a piece of a merge -/
structure Pc (α : Type) where
  kind : Int
  o : List α
  a : List α
  b : List α
/-- the lines that stand in all three lists -/
def stab : List (Option Nat) → List (Option Nat) → Nat → List (Nat × Nat × Nat)
  | some x :: l, some y :: r, i => (i, x, y) :: stab l r (i + 1)
  | some _ :: l, none :: r, i => stab l r (i + 1)
  | none :: l, _ :: r, i => stab l r (i + 1)
  | _, _, _ => []
theorem stab_swap : ∀ (l r : List (Option Nat)) (i : Nat), stab r l i = (stab l r i).map (fun s => (s.1, s.2.2, s.2.1))
  | [], r, i => by
    cases r with
    | nil => rfl
    | cons y r => cases y <;> rfl
  | x :: l, [], i => by cases x <;> rfl
  | some x :: l, some y :: r, i => by
    show (i, y, x) :: stab r l (i + 1) = _
    rw [stab_swap l r (i + 1)]
    rfl
  | some x :: l, none :: r, i => stab_swap l r (i + 1)
  | none :: l, some y :: r, i => stab_swap l r (i + 1)
  | none :: l, none :: r, i => stab_swap l r (i + 1)

section
variable {α : Type}
/-- a part of a list -/
def seg (A : List α) (i j : Nat) : List α := (A.drop i).take (j - i)
theorem seg_nil (A : List α) (i : Nat) : seg A i i = [] := by unfold seg; rw [Nat.sub_self]; rfl
theorem seg_app (A : List α) {i j : Nat} (h : i ≤ j) : A.take i ++ seg A i j = A.take j := by
  unfold seg
  have e : j = i + (j - i) := by omega
  conv => rhs; rw [e, List.take_add]
theorem seg_one {A : List α} {i : Nat} {x : α} (h : A[i]? = some x) : A.take i ++ [x] = A.take (i + 1) := by
  rw [List.take_add_one, h]
  rfl
/-- the last piece grown by a line -/
def joinP : List (Pc α) → α → α → α → List (Pc α)
  | [], _, _, _ => []
  | [p], x, y, z => [⟨p.kind, p.o ++ [x], p.a ++ [y], p.b ++ [z]⟩]
  | p :: q :: l, x, y, z => p :: joinP (q :: l) x y z
theorem joinP_app : ∀ (l : List (Pc α)) (p : Pc α) (x y z : α), joinP (l ++ [p]) x y z = l ++ [⟨p.kind, p.o ++ [x], p.a ++ [y], p.b ++ [z]⟩]
  | [], p, x, y, z => rfl
  | [q], p, x, y, z => rfl
  | q :: r :: l, p, x, y, z => by
    show q :: joinP ((r :: l) ++ [p]) x y z = _
    rw [joinP_app (r :: l) p x y z]
    rfl
def sameP (x y z : α) : Pc α := ⟨1, [x], [y], [z]⟩
theorem drop_get {A : List α} {i : Nat} {x : α} {r : List α} (h : x :: r = A.drop i) : A[i]? = some x ∧ r = A.drop (i + 1) := by
  constructor
  · have : (A.drop i)[0]? = some x := by rw [← h]; rfl
    simpa using this
  · have : (A.drop i).drop 1 = r := by rw [← h]; rfl
    rw [← this, List.drop_drop]
theorem seg_split (A : List α) {i j : Nat} {x : α} (h : A[i]? = some x) (hj : i < j) : seg A i j = x :: seg A (i + 1) j := by
  obtain ⟨hl, he⟩ := List.getElem?_eq_some_iff.1 h
  unfold seg
  rw [List.drop_eq_getElem_cons hl, he, show j - i = (j - (i + 1)) + 1 by omega, List.take_succ_cons]
end
section
variable {α : Type} [DecidableEq α]
def kindOf (o a b : List α) : Int := if b = o then 2 else if a = o then 3 else if a = b then 4 else 5
def diffP (O A B : List α) (f t : Nat × Nat × Nat) : List (Pc α) := if f = t then [] else [⟨kindOf (seg O f.1 t.1) (seg A f.2.1 t.2.1) (seg B f.2.2 t.2.2), seg O f.1 t.1, seg A f.2.1 t.2.1, seg B f.2.2 t.2.2⟩]
/-- the pieces, from what has been done on -/
def mrgF [Inhabited α] (O A B : List α) : List (Nat × Nat × Nat) → Nat × Nat × Nat → List (Pc α) → List (Pc α)
  | [], f, ps => ps ++ diffP O A B f (O.length, A.length, B.length)
  | s :: l, f, ps => mrgF O A B l (s.1 + 1, s.2.1 + 1, s.2.2 + 1)
    (if 0 < s.1 ∧ f = s then joinP ps (O[s.1]?.getD default) (A[s.2.1]?.getD default) (B[s.2.2]?.getD default) else ps ++ diffP O A B f s ++ [sameP (O[s.1]?.getD default) (A[s.2.1]?.getD default) (B[s.2.2]?.getD default)])
def mrg [Inhabited α] (O A B : List α) : List (Pc α) := mrgF O A B (stab (comm O A 0) (comm O B 0) 0) (0, 0, 0) []

/-- stable lines, from a place on: nothing that is the same in all three lists stands ahead of the next one -/
def Stb (O A B : List α) : Nat × Nat × Nat → List (Nat × Nat × Nat) → Prop
  | f, [] => f.1 ≤ O.length ∧ f.2.1 ≤ A.length ∧ f.2.2 ≤ B.length ∧ (f ≠ (O.length, A.length, B.length) → ¬ (O.drop f.1 = A.drop f.2.1 ∧ O.drop f.1 = B.drop f.2.2))
  | f, s :: l => f.1 ≤ s.1 ∧ f.2.1 ≤ s.2.1 ∧ f.2.2 ≤ s.2.2 ∧ (∃ u, O[s.1]? = some u ∧ A[s.2.1]? = some u ∧ B[s.2.2]? = some u) ∧
    (f ≠ s → ¬ (seg O f.1 s.1 = seg A f.2.1 s.2.1 ∧ seg O f.1 s.1 = seg B f.2.2 s.2.2)) ∧ Stb O A B (s.1 + 1, s.2.1 + 1, s.2.2 + 1) l

theorem head_pair {x : α} {a b : List α} {j : Nat} : comm (x :: a) (x :: b) j = some j :: comm a b (j + 1) := by
  conv => lhs; unfold comm
  have e : idx x (x :: b) = some 0 := by unfold idx; rw [if_pos rfl]
  rw [e]
  simp only
  rw [if_pos (by rw [lcs_cons, if_pos rfl]; rfl)]
  rfl
/-- the walk over the base: f is what has been told, i the line that is next, j and k what has been paired -/
theorem stab_stb (O A B : List α) : ∀ (o : List α) (i j k : Nat) (f : Nat × Nat × Nat), o = O.drop i → i ≤ O.length → j ≤ A.length → k ≤ B.length →
    f.1 ≤ i ∧ f.2.1 ≤ j ∧ f.2.2 ≤ k → (f ≠ (i, j, k) → ¬ (∃ n, O[f.1]? = some n ∧ A[f.2.1]? = some n ∧ B[f.2.2]? = some n)) →
    Stb O A B f (stab (comm o (A.drop j) j) (comm o (B.drop k) k) i) := by
  intro o
  induction o with
  | nil =>
    intro i j k f ho hi hj hk hf hn
    have hOl : i = O.length := by
      have : (O.drop i).length = 0 := by rw [← ho]; rfl
      rw [List.length_drop] at this
      omega
    subst hOl
    refine ⟨hf.1, by omega, by omega, fun hne ⟨e1, e2⟩ => ?_⟩
    by_cases hfi : f = (O.length, j, k)
    · rw [hfi] at e1 e2 hne
      simp only [List.drop_length] at e1 e2
      have h1 : A.length ≤ j := List.drop_eq_nil_iff.1 e1.symm
      have h2 : B.length ≤ k := List.drop_eq_nil_iff.1 e2.symm
      exact hne (by rw [show j = A.length by omega, show k = B.length by omega])
    · refine hn hfi ?_
      cases ho2 : O.drop f.1 with
      | nil =>
        have h0 : O.length ≤ f.1 := List.drop_eq_nil_iff.1 ho2
        rw [ho2] at e1 e2
        have h1 : A.length ≤ f.2.1 := List.drop_eq_nil_iff.1 e1.symm
        have h2 : B.length ≤ f.2.2 := List.drop_eq_nil_iff.1 e2.symm
        exact absurd (Prod.ext (by simp; omega) (Prod.ext (by simp; omega) (by simp; omega))) hfi
      | cons n r =>
        rw [ho2] at e1 e2
        exact ⟨n, (drop_get ho2.symm).1, (drop_get e1).1, (drop_get e2).1⟩
  | cons x o ih =>
    intro i j k f ho hi hj hk hf hn
    obtain ⟨hx, ho'⟩ := drop_get ho
    have hi' : i + 1 ≤ O.length := (List.getElem?_eq_some_iff.1 hx).1
    rcases comm_cons x o (A.drop j) j with ⟨m, h1, _, h3⟩ | ⟨h1, _, h3⟩
    · obtain ⟨g1, _⟩ := idx_some h1
      rw [List.getElem?_drop] at g1
      have hm : j + m + 1 ≤ A.length := (List.getElem?_eq_some_iff.1 g1).1
      rw [List.drop_drop, show j + (m + 1) = j + m + 1 by omega] at h3
      rcases comm_cons x o (B.drop k) k with ⟨m', h1', _, h3'⟩ | ⟨h1', _, h3'⟩
      · obtain ⟨g1', _⟩ := idx_some h1'
        rw [List.getElem?_drop] at g1'
        have hm' : k + m' + 1 ≤ B.length := (List.getElem?_eq_some_iff.1 g1').1
        rw [List.drop_drop, show k + (m' + 1) = k + m' + 1 by omega] at h3'
        rw [h3, h3']
        show Stb O A B f ((i, j + m, k + m') :: stab (comm o (A.drop (j + m + 1)) (j + m + 1)) (comm o (B.drop (k + m' + 1)) (k + m' + 1)) (i + 1))
        refine ⟨hf.1, by simp only; omega, by simp only; omega, ⟨x, hx, g1, g1'⟩, fun hne ⟨e1, e2⟩ => ?_, ih (i + 1) (j + m + 1) (k + m' + 1) _ ho' hi' hm hm' ⟨Nat.le_refl _, Nat.le_refl _, Nat.le_refl _⟩ (fun hh => absurd rfl hh)⟩
        simp only at e1 e2
        by_cases hfi : f = (i, j, k)
        · subst hfi
          simp only at e1 e2 hne
          rw [seg_nil] at e1 e2
          have l1 := congrArg List.length e1
          have l2 := congrArg List.length e2
          unfold seg at l1 l2
          rw [List.length_take, List.length_drop] at l1 l2
          simp only [List.length_nil] at l1 l2
          exact hne (by rw [show m = 0 by omega, show m' = 0 by omega]; rfl)
        · refine hn hfi ?_
          have l1 := congrArg List.length e1
          have l2 := congrArg List.length e2
          unfold seg at l1 l2
          rw [List.length_take, List.length_drop, List.length_take, List.length_drop] at l1 l2
          by_cases hlt : f.1 < i
          · obtain ⟨n, hnn⟩ : ∃ n, O[f.1]? = some n := ⟨_, List.getElem?_eq_getElem (by omega)⟩
            obtain ⟨na, hna⟩ : ∃ n, A[f.2.1]? = some n := ⟨_, List.getElem?_eq_getElem (by omega)⟩
            obtain ⟨nb, hnb⟩ : ∃ n, B[f.2.2]? = some n := ⟨_, List.getElem?_eq_getElem (by omega)⟩
            rw [seg_split O hnn hlt, seg_split A hna (by omega)] at e1
            rw [seg_split O hnn hlt, seg_split B hnb (by omega)] at e2
            have q1 := (List.cons.inj e1).1
            have q2 := (List.cons.inj e2).1
            exact ⟨n, hnn, by rw [hna, ← q1], by rw [hnb, ← q2]⟩
          · exfalso
            have a1 : f.1 = i := by omega
            have a2 : f.2.1 = j := by omega
            have a3 : f.2.2 = k := by omega
            exact hfi (Prod.ext a1 (Prod.ext a2 a3))
      · rw [h3, h3']
        show Stb O A B f (stab (comm o (A.drop (j + m + 1)) (j + m + 1)) (comm o (B.drop k) k) (i + 1))
        refine ih (i + 1) (j + m + 1) k f ho' hi' hm hk ⟨by omega, by omega, hf.2.2⟩ (fun hne ⟨n, n1, n2, n3⟩ => ?_)
        by_cases hfi : f = (i, j, k)
        · subst hfi
          simp only at n1 n2 n3
          rw [hx] at n1
          have : x = n := Option.some.inj n1
          subst this
          have hb : ∃ r, B.drop k = x :: r := ⟨_, by rw [List.drop_eq_getElem_cons (List.getElem?_eq_some_iff.1 n3).1, (List.getElem?_eq_some_iff.1 n3).2]⟩
          obtain ⟨r, hr⟩ := hb
          refine h1' 0 (by rw [hr]; rfl) ?_
          rw [hr, lcs_cons, if_pos rfl]
          rfl
        · exact hn hfi ⟨n, n1, n2, n3⟩
    · rw [h3]
      have hl : ∀ r, stab (none :: comm o (A.drop j) j) r i = match r with
          | [] => []
          | _ :: r' => stab (comm o (A.drop j) j) r' (i + 1) := by
        intro r
        cases r with
        | nil => rfl
        | cons y r' => cases y <;> rfl
      have hnoA : ∀ n, O[i]? = some n → A[j]? ≠ some n := by
        intro n n1 n2
        rw [hx] at n1
        have : x = n := Option.some.inj n1
        subst this
        have hb : ∃ r, A.drop j = x :: r := ⟨_, by rw [List.drop_eq_getElem_cons (List.getElem?_eq_some_iff.1 n2).1, (List.getElem?_eq_some_iff.1 n2).2]⟩
        obtain ⟨r, hr⟩ := hb
        refine h1 0 (by rw [hr]; rfl) ?_
        rw [hr, lcs_cons, if_pos rfl]
        rfl
      rw [hl]
      rcases comm_cons x o (B.drop k) k with ⟨m', h1', _, h3'⟩ | ⟨h1', _, h3'⟩
      · obtain ⟨g1', _⟩ := idx_some h1'
        rw [List.getElem?_drop] at g1'
        have hm' : k + m' + 1 ≤ B.length := (List.getElem?_eq_some_iff.1 g1').1
        rw [List.drop_drop, show k + (m' + 1) = k + m' + 1 by omega] at h3'
        rw [h3']
        refine ih (i + 1) j (k + m' + 1) f ho' hi' hj hm' ⟨by omega, hf.2.1, by omega⟩ (fun hne ⟨n, n1, n2, n3⟩ => ?_)
        by_cases hfi : f = (i, j, k)
        · subst hfi
          exact hnoA n n1 n2
        · exact hn hfi ⟨n, n1, n2, n3⟩
      · rw [h3']
        refine ih (i + 1) j k f ho' hi' hj hk ⟨by omega, hf.2.1, hf.2.2⟩ (fun hne ⟨n, n1, n2, n3⟩ => ?_)
        by_cases hfi : f = (i, j, k)
        · subst hfi
          exact hnoA n n1 n2
        · exact hn hfi ⟨n, n1, n2, n3⟩
theorem mrg_stb (O A B : List α) : Stb O A B (0, 0, 0) (stab (comm O A 0) (comm O B 0) 0) :=
  stab_stb O A B O 0 0 0 (0, 0, 0) rfl (Nat.zero_le _) (Nat.zero_le _) (Nat.zero_le _) ⟨Nat.le_refl _, Nat.le_refl _, Nat.le_refl _⟩ (fun h => absurd rfl h)
end
end Go.Proofs.Ytfhkmmicdbblnaa

