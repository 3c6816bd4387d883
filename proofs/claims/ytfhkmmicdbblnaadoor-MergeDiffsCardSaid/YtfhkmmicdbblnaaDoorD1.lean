/-
  The longest common part of two lists, the pairs of common lines, and the script between two lists: plain facts, no program in sight.
-/
import Derived.Lib.Small
namespace Go.Proofs.YtfhkmmicdbblnaaDoor
set_option linter.unusedSimpArgs false
set_option linter.unusedVariables false

section
variable {α : Type} [DecidableEq α]

def lcsIn (x : α) (f : List α → Nat) : List α → Nat
  | [] => 0
  | y :: b => if x = y then 1 + f b else max (f (y :: b)) (lcsIn x f b)
/-- how many members of two lists can be paired, in order -/
def lcs : List α → List α → Nat
  | [], _ => 0
  | x :: a, b => lcsIn x (lcs a) b
theorem lcs_nil (b : List α) : lcs [] b = 0 := rfl
theorem lcs_nil2 (a : List α) : lcs a [] = 0 := by cases a <;> rfl
theorem lcs_cons (x y : α) (a b : List α) : lcs (x :: a) (y :: b) = if x = y then 1 + lcs a b else max (lcs a (y :: b)) (lcs (x :: a) b) := rfl
theorem lcs_mono : ∀ (a b : List α) (x y : α), lcs a b ≤ lcs (x :: a) b ∧ lcs a b ≤ lcs a (y :: b) ∧ lcs (x :: a) b ≤ 1 + lcs a b ∧ lcs a (y :: b) ≤ 1 + lcs a b := by
  suffices h : ∀ (n : Nat) (a b : List α), a.length + b.length ≤ n → ∀ x y : α, lcs a b ≤ lcs (x :: a) b ∧ lcs a b ≤ lcs a (y :: b) ∧ lcs (x :: a) b ≤ 1 + lcs a b ∧ lcs a (y :: b) ≤ 1 + lcs a b from
    fun a b x y => h _ a b (Nat.le_refl _) x y
  intro n
  induction n with
  | zero =>
    intro a b h x y
    have ha : a = [] := List.eq_nil_of_length_eq_zero (by omega)
    have hb : b = [] := List.eq_nil_of_length_eq_zero (by omega)
    subst ha hb
    simp [lcs, lcsIn]
  | succ n ih =>
    intro a b h x y
    have first : lcs a b ≤ lcs (x :: a) b ∧ lcs (x :: a) b ≤ 1 + lcs a b := by
      cases b with
      | nil => rw [lcs_nil2, lcs_nil2]; omega
      | cons z b =>
        have i1 := ih a b (by simp at h; omega) x z
        rw [lcs_cons]
        by_cases e : x = z
        · rw [if_pos e]; omega
        · rw [if_neg e]
          omega
    have second : lcs a b ≤ lcs a (y :: b) ∧ lcs a (y :: b) ≤ 1 + lcs a b := by
      cases a with
      | nil => simp [lcs_nil]
      | cons z a =>
        have i1 := ih a b (by simp at h; omega) z y
        rw [lcs_cons]
        by_cases e : z = y
        · rw [if_pos e]; omega
        · rw [if_neg e]
          omega
    exact ⟨first.1, second.1, first.2, second.2⟩
/-- the reference's row -/
theorem lcs_ref (x y : α) (a b : List α) : lcs (x :: a) (y :: b) = max (max (lcs a (y :: b)) (lcs (x :: a) b)) (if x = y then lcs a b + 1 else 0) := by
  have h1 := lcs_mono a b x y
  rw [lcs_cons]
  by_cases e : x = y
  · rw [if_pos e, if_pos e]; omega
  · rw [if_neg e, if_neg e]; omega
theorem lcs_drop (a : List α) : ∀ (k : Nat) (b : List α), lcs a (b.drop k) ≤ lcs a b
  | 0, b => Nat.le_refl _
  | k + 1, [] => Nat.le_refl _
  | k + 1, y :: b => Nat.le_trans (lcs_drop a k b) (lcs_mono a b y y).2.1
theorem lcs_drop_le (a b : List α) {j k : Nat} (h : j ≤ k) : lcs a (b.drop k) ≤ lcs a (b.drop j) := by
  have e : b.drop k = (b.drop j).drop (k - j) := by rw [List.drop_drop]; congr 1; omega
  rw [e]
  exact lcs_drop _ _ _
theorem lcs_pair {x : α} {a : List α} : ∀ {b : List α} {k : Nat}, b[k]? = some x → 1 + lcs a (b.drop (k + 1)) ≤ lcs (x :: a) b
  | [], k, h => by simp at h
  | y :: b, 0, h => by
    have e : y = x := by simpa using h
    subst e
    rw [lcs_cons, if_pos rfl]
    exact Nat.le_refl _
  | y :: b, k + 1, h => by
    have ih := lcs_pair (a := a) (b := b) (k := k) (x := x) (by simpa using h)
    have := (lcs_mono (x :: a) b y y).2.1
    rw [List.drop_succ_cons]
    omega
theorem lcs_row {x : α} {a : List α} : ∀ (b : List α), lcs (x :: a) b = lcs a b ∨ ∃ k, b[k]? = some x ∧ lcs (x :: a) b = 1 + lcs a (b.drop (k + 1))
  | [] => .inl (by rw [lcs_nil2, lcs_nil2])
  | y :: b => by
    rw [lcs_cons]
    by_cases e : x = y
    · rw [if_pos e]
      exact .inr ⟨0, by rw [e]; rfl, rfl⟩
    · rw [if_neg e]
      rcases Nat.le_total (lcs (x :: a) b) (lcs a (y :: b)) with h | h
      · exact .inl (by omega)
      · rcases lcs_row (x := x) (a := a) b with h1 | ⟨k, h1, h2⟩
        · have := (lcs_mono a b y y).2.1
          exact .inl (by omega)
        · exact .inr ⟨k + 1, by simpa using h1, by rw [List.drop_succ_cons]; omega⟩

/-- the first place of a member -/
def idx (x : α) : List α → Option Nat
  | [] => none
  | y :: b => if y = x then some 0 else (idx x b).map (· + 1)
theorem idx_some {x : α} : ∀ {b : List α} {k : Nat}, idx x b = some k → b[k]? = some x ∧ ∀ j, j < k → b[j]? ≠ some x
  | [], k, h => by cases h
  | y :: b, k, h => by
    unfold idx at h
    by_cases e : y = x
    · rw [if_pos e] at h
      cases h
      exact ⟨by rw [e]; rfl, fun j hj => by omega⟩
    · rw [if_neg e] at h
      obtain ⟨m, hm, rfl⟩ := Option.map_eq_some_iff.1 h
      obtain ⟨i1, i2⟩ := idx_some hm
      refine ⟨by simpa using i1, fun j hj => ?_⟩
      cases j with
      | zero => simpa using e
      | succ j => simpa using i2 j (by omega)
theorem idx_none {x : α} : ∀ {b : List α}, idx x b = none → ∀ j : Nat, b[j]? ≠ some x
  | [], _, j => by simp
  | y :: b, h, j => by
    unfold idx at h
    by_cases e : y = x
    · rw [if_pos e] at h; cases h
    · rw [if_neg e] at h
      have h' : idx x b = none := by simpa using h
      cases j with
      | zero => simpa using e
      | succ j => simpa using idx_none h' j

/-- for each member of a its partner in b, counted from j -/
def comm : List α → List α → Nat → List (Option Nat)
  | [], _, _ => []
  | x :: a, b, j => match idx x b with
    | some k => if 1 + lcs a (b.drop (k + 1)) = lcs (x :: a) b then some (j + k) :: comm a (b.drop (k + 1)) (j + k + 1) else none :: comm a b j
    | none => none :: comm a b j
theorem comm_len : ∀ (a b : List α) (j : Nat), (comm a b j).length = a.length
  | [], b, j => rfl
  | x :: a, b, j => by
    unfold comm
    split
    · split
      · rw [List.length_cons, comm_len a]; rfl
      · rw [List.length_cons, comm_len a]; rfl
    · rw [List.length_cons, comm_len a]; rfl
/-- the pairs of a list of partners -/
def prs : List (Option Nat) → Nat → List (Nat × Nat)
  | [], _ => []
  | some j :: l, i => (i, j) :: prs l (i + 1)
  | none :: l, i => prs l (i + 1)
def pairs (a b : List α) (i j : Nat) : List (Nat × Nat) := prs (comm a b j) i

/-- a member is paired, or it is not, and then nothing is lost by leaving it -/
theorem comm_cons (x : α) (a b : List α) (j : Nat) :
    (∃ k, idx x b = some k ∧ lcs (x :: a) b = 1 + lcs a (b.drop (k + 1)) ∧ comm (x :: a) b j = some (j + k) :: comm a (b.drop (k + 1)) (j + k + 1)) ∨
    ((∀ k : Nat, b[k]? = some x → 1 + lcs a (b.drop (k + 1)) ≠ lcs (x :: a) b) ∧ lcs (x :: a) b = lcs a b ∧ comm (x :: a) b j = none :: comm a b j) := by
  cases h : idx x b with
  | none =>
    have hn := idx_none h
    refine .inr ⟨fun k hk => absurd hk (hn k), ?_, ?_⟩
    · rcases lcs_row (x := x) (a := a) b with h1 | ⟨k, h1, _⟩
      · exact h1
      · exact absurd h1 (hn k)
    · conv => lhs; unfold comm
      rw [h]
  | some k =>
    obtain ⟨h1, h2⟩ := idx_some h
    by_cases e : 1 + lcs a (b.drop (k + 1)) = lcs (x :: a) b
    · refine .inl ⟨k, rfl, e.symm, ?_⟩
      conv => lhs; unfold comm
      rw [h]
      simp only
      rw [if_pos e]
    · have hno : ∀ m : Nat, b[m]? = some x → 1 + lcs a (b.drop (m + 1)) ≠ lcs (x :: a) b := by
        intro m hm he
        have hkm : k ≤ m := by
          rcases Nat.lt_or_ge m k with h3 | h3
          · exact absurd hm (h2 m h3)
          · exact h3
        have h4 := lcs_drop_le a b (show k + 1 ≤ m + 1 by omega)
        have h5 := lcs_pair (a := a) h1
        omega
      refine .inr ⟨hno, ?_, ?_⟩
      · rcases lcs_row (x := x) (a := a) b with h3 | ⟨m, h3, h4⟩
        · exact h3
        · exact absurd h4.symm (hno m h3)
      · conv => lhs; unfold comm
        rw [h]
        simp only
        rw [if_neg e]

/-- no pairs are left -/
theorem pairs_zero : ∀ (a b : List α) (i j : Nat), lcs a b = 0 → pairs a b i j = []
  | [], b, i, j, _ => rfl
  | x :: a, b, i, j, h => by
    rcases comm_cons x a b j with ⟨k, _, h2, _⟩ | ⟨_, h2, h3⟩
    · omega
    · unfold pairs
      rw [h3]
      exact pairs_zero a b (i + 1) j (by omega)
/-- the reference's first pair, of all that begin as many pairs as there can be -/
def fstPair (L : Nat) (a b : List α) (x y : Nat) : Prop := ∃ u, a[x]? = some u ∧ b[y]? = some u ∧ lcs (a.drop (x + 1)) (b.drop (y + 1)) + 1 = L
theorem pairs_first : ∀ (a b : List α) (i j : Nat), 0 < lcs a b → ∃ x y, fstPair (lcs a b) a b x y ∧
    (∀ x' y' : Nat, x' < x ∨ (x' = x ∧ y' < y) → ¬ fstPair (lcs a b) a b x' y') ∧
    pairs a b i j = (i + x, j + y) :: pairs (a.drop (x + 1)) (b.drop (y + 1)) (i + x + 1) (j + y + 1)
  | [], b, i, j, h => by rw [lcs_nil] at h; omega
  | u :: a, b, i, j, h => by
    rcases comm_cons u a b j with ⟨k, h1, h2, h3⟩ | ⟨h1, h2, h3⟩
    · obtain ⟨g1, g2⟩ := idx_some h1
      refine ⟨0, k, ⟨u, rfl, g1, by rw [h2]; exact Nat.add_comm _ _⟩, ?_, ?_⟩
      · rintro x' y' (hx | ⟨rfl, hy⟩) ⟨v, e1, e2, _⟩
        · omega
        · have : u = v := by simpa using e1
          subst this
          exact g2 y' hy e2
      · unfold pairs
        rw [h3]
        rfl
    · obtain ⟨x, y, ⟨v, f1, f2, f3⟩, f4, f5⟩ := pairs_first a b (i + 1) j (by omega)
      refine ⟨x + 1, y, ⟨v, by simpa using f1, f2, by rw [h2]; exact f3⟩, ?_, ?_⟩
      · rintro x' y' hxy ⟨v', e1, e2, e3⟩
        cases x' with
        | zero =>
          have : u = v' := by simpa using e1
          subst this
          exact h1 y' e2 (by rw [← e3]; exact Nat.add_comm _ _)
        | succ x' =>
          refine f4 x' y' ?_ ⟨v', by simpa using e1, e2, by rw [← h2]; exact e3⟩
          omega
      · unfold pairs at f5 ⊢
        rw [h3]
        show prs (comm a b j) (i + 1) = _
        rw [f5]
        simp only [List.drop_succ_cons]
        congr 2
        · omega
        · omega

/-- what pairs are -/
def Prs (a b : List α) : Nat → Nat → List (Nat × Nat) → Prop
  | _, _, [] => True
  | i, j, p :: l => i ≤ p.1 ∧ j ≤ p.2 ∧ (∃ u, a[p.1]? = some u ∧ b[p.2]? = some u) ∧ Prs a b (p.1 + 1) (p.2 + 1) l
theorem comm_prs (A B : List α) : ∀ (a b : List α) (i j : Nat), a = A.drop i → b = B.drop j → Prs A B i j (pairs a b i j) ∧ (pairs a b i j).length = lcs a b
  | [], b, i, j, _, _ => ⟨trivial, rfl⟩
  | x :: a, b, i, j, ha, hb => by
    have hx : A[i]? = some x := by
      have : (A.drop i)[0]? = some x := by rw [← ha]; rfl
      simpa using this
    have ha' : a = A.drop (i + 1) := by
      have : (A.drop i).drop 1 = a := by rw [← ha]; rfl
      rw [← this, List.drop_drop]
    rcases comm_cons x a b j with ⟨k, h1, h2, h3⟩ | ⟨h1, h2, h3⟩
    · obtain ⟨g1, _⟩ := idx_some h1
      have hk : B[j + k]? = some x := by rw [hb, List.getElem?_drop] at g1; exact g1
      obtain ⟨i1, i2⟩ := comm_prs A B a (b.drop (k + 1)) (i + 1) (j + k + 1) ha' (by rw [hb, List.drop_drop]; congr 1)
      have e : pairs (x :: a) b i j = (i, j + k) :: pairs a (b.drop (k + 1)) (i + 1) (j + k + 1) := by
        unfold pairs
        rw [h3]
        rfl
      rw [e]
      refine ⟨⟨Nat.le_refl _, by omega, ⟨x, hx, hk⟩, i1⟩, ?_⟩
      rw [List.length_cons, i2, h2]
      omega
    · obtain ⟨i1, i2⟩ := comm_prs A B a b (i + 1) j ha' hb
      have e : pairs (x :: a) b i j = pairs a b (i + 1) j := by
        unfold pairs
        rw [h3]
        rfl
      rw [e, h2]
      refine ⟨?_, i2⟩
      generalize pairs a b (i + 1) j = l at *
      cases l with
      | nil => trivial
      | cons p l => exact ⟨by have := i1.1; omega, i1.2⟩
/-- as many pairs as there are, and not more -/
theorem prs_le (A B : List α) : ∀ (l : List (Nat × Nat)) (i j : Nat), Prs A B i j l → l.length ≤ lcs (A.drop i) (B.drop j)
  | [], i, j, _ => Nat.zero_le _
  | p :: l, i, j, h => by
    obtain ⟨h1, h2, ⟨u, h3, h4⟩, h5⟩ := h
    have ih := prs_le A B l _ _ h5
    have e1 : A.drop p.1 = u :: A.drop (p.1 + 1) := by
      obtain ⟨hl, he⟩ := List.getElem?_eq_some_iff.1 h3
      rw [List.drop_eq_getElem_cons hl, he]
    have h6 : 1 + lcs (A.drop (p.1 + 1)) (B.drop (p.2 + 1)) ≤ lcs (A.drop p.1) (B.drop p.2) := by
      rw [e1]
      have := lcs_pair (x := u) (a := A.drop (p.1 + 1)) (b := B.drop p.2) (k := 0) (by simpa using h4)
      rw [List.drop_drop] at this
      exact this
    have h7 := lcs_drop_le (A.drop p.1) B h2
    have h8 : lcs (A.drop p.1) (B.drop j) ≤ lcs (A.drop i) (B.drop j) := by
      have : ∀ (m : Nat) (a b : List α), lcs (a.drop m) b ≤ lcs a b := by
        intro m
        induction m with
        | zero => intro a b; exact Nat.le_refl _
        | succ m ihm =>
          intro a b
          cases a with
          | nil => exact Nat.le_refl _
          | cons z a => exact Nat.le_trans (ihm a b) (lcs_mono a b z z).1
      have e : A.drop p.1 = (A.drop i).drop (p.1 - i) := by rw [List.drop_drop]; congr 1; omega
      rw [e]
      exact this _ _ _
    rw [List.length_cons]
    omega
end
end Go.Proofs.YtfhkmmicdbblnaaDoor

