/-
  Several texts in one: D1, D2, D3, D4, D5, D6, D9, D10, D11, D12, E2, M12, G1.
-/
import Derived.Lib.Small
import Derived.Lib.SplitLaws
import Derived.Lib.Strings
import Derived.Lib.Bytealg
import Derived.Lib.Split
import Derived.Maps.OwnSet

/-
  The longest common part of two lists, the pairs of common lines, and the script between two lists: plain facts, no program in sight.
-/
namespace Go.Proofs.YtfhkmmicdbblnaaDoor
set_option linter.unusedSimpArgs false
set_option linter.unusedVariables false

section
variable {α : Type} [DecidableEq α]

def lcsIn (x : α) (f : List α → Nat) : List α → Nat
  | [] => 0
  | y :: b => if x = y then 1 + f b else max (f (y :: b)) (lcsIn x f b)
/-- how many members of two lists can be paired, in order -/
def lcs : List α → List α → Nat
  | [], _ => 0
  | x :: a, b => lcsIn x (lcs a) b
theorem lcs_nil (b : List α) : lcs [] b = 0 := rfl
theorem lcs_nil2 (a : List α) : lcs a [] = 0 := by cases a <;> rfl
theorem lcs_cons (x y : α) (a b : List α) : lcs (x :: a) (y :: b) = if x = y then 1 + lcs a b else max (lcs a (y :: b)) (lcs (x :: a) b) := rfl
theorem lcs_mono : ∀ (a b : List α) (x y : α), lcs a b ≤ lcs (x :: a) b ∧ lcs a b ≤ lcs a (y :: b) ∧ lcs (x :: a) b ≤ 1 + lcs a b ∧ lcs a (y :: b) ≤ 1 + lcs a b := by
  suffices h : ∀ (n : Nat) (a b : List α), a.length + b.length ≤ n → ∀ x y : α, lcs a b ≤ lcs (x :: a) b ∧ lcs a b ≤ lcs a (y :: b) ∧ lcs (x :: a) b ≤ 1 + lcs a b ∧ lcs a (y :: b) ≤ 1 + lcs a b from
    fun a b x y => h _ a b (Nat.le_refl _) x y
  intro n
  induction n with
  | zero =>
    intro a b h x y
    have ha : a = [] := List.eq_nil_of_length_eq_zero (by omega)
    have hb : b = [] := List.eq_nil_of_length_eq_zero (by omega)
    subst ha hb
    simp [lcs, lcsIn]
  | succ n ih =>
    intro a b h x y
    have first : lcs a b ≤ lcs (x :: a) b ∧ lcs (x :: a) b ≤ 1 + lcs a b := by
      cases b with
      | nil => rw [lcs_nil2, lcs_nil2]; omega
      | cons z b =>
        have i1 := ih a b (by simp at h; omega) x z
        rw [lcs_cons]
        by_cases e : x = z
        · rw [if_pos e]; omega
        · rw [if_neg e]
          omega
    have second : lcs a b ≤ lcs a (y :: b) ∧ lcs a (y :: b) ≤ 1 + lcs a b := by
      cases a with
      | nil => simp [lcs_nil]
      | cons z a =>
        have i1 := ih a b (by simp at h; omega) z y
        rw [lcs_cons]
        by_cases e : z = y
        · rw [if_pos e]; omega
        · rw [if_neg e]
          omega
    exact ⟨first.1, second.1, first.2, second.2⟩
/-- the reference's row -/
theorem lcs_ref (x y : α) (a b : List α) : lcs (x :: a) (y :: b) = max (max (lcs a (y :: b)) (lcs (x :: a) b)) (if x = y then lcs a b + 1 else 0) := by
  have h1 := lcs_mono a b x y
  rw [lcs_cons]
  by_cases e : x = y
  · rw [if_pos e, if_pos e]; omega
  · rw [if_neg e, if_neg e]; omega
theorem lcs_drop (a : List α) : ∀ (k : Nat) (b : List α), lcs a (b.drop k) ≤ lcs a b
  | 0, b => Nat.le_refl _
  | k + 1, [] => Nat.le_refl _
  | k + 1, y :: b => Nat.le_trans (lcs_drop a k b) (lcs_mono a b y y).2.1
theorem lcs_drop_le (a b : List α) {j k : Nat} (h : j ≤ k) : lcs a (b.drop k) ≤ lcs a (b.drop j) := by
  have e : b.drop k = (b.drop j).drop (k - j) := by rw [List.drop_drop]; congr 1; omega
  rw [e]
  exact lcs_drop _ _ _
theorem lcs_pair {x : α} {a : List α} : ∀ {b : List α} {k : Nat}, b[k]? = some x → 1 + lcs a (b.drop (k + 1)) ≤ lcs (x :: a) b
  | [], k, h => by simp at h
  | y :: b, 0, h => by
    have e : y = x := by simpa using h
    subst e
    rw [lcs_cons, if_pos rfl]
    exact Nat.le_refl _
  | y :: b, k + 1, h => by
    have ih := lcs_pair (a := a) (b := b) (k := k) (x := x) (by simpa using h)
    have := (lcs_mono (x :: a) b y y).2.1
    rw [List.drop_succ_cons]
    omega
theorem lcs_row {x : α} {a : List α} : ∀ (b : List α), lcs (x :: a) b = lcs a b ∨ ∃ k, b[k]? = some x ∧ lcs (x :: a) b = 1 + lcs a (b.drop (k + 1))
  | [] => .inl (by rw [lcs_nil2, lcs_nil2])
  | y :: b => by
    rw [lcs_cons]
    by_cases e : x = y
    · rw [if_pos e]
      exact .inr ⟨0, by rw [e]; rfl, rfl⟩
    · rw [if_neg e]
      rcases Nat.le_total (lcs (x :: a) b) (lcs a (y :: b)) with h | h
      · exact .inl (by omega)
      · rcases lcs_row (x := x) (a := a) b with h1 | ⟨k, h1, h2⟩
        · have := (lcs_mono a b y y).2.1
          exact .inl (by omega)
        · exact .inr ⟨k + 1, by simpa using h1, by rw [List.drop_succ_cons]; omega⟩

/-- the first place of a member -/
def idx (x : α) : List α → Option Nat
  | [] => none
  | y :: b => if y = x then some 0 else (idx x b).map (· + 1)
theorem idx_some {x : α} : ∀ {b : List α} {k : Nat}, idx x b = some k → b[k]? = some x ∧ ∀ j, j < k → b[j]? ≠ some x
  | [], k, h => by cases h
  | y :: b, k, h => by
    unfold idx at h
    by_cases e : y = x
    · rw [if_pos e] at h
      cases h
      exact ⟨by rw [e]; rfl, fun j hj => by omega⟩
    · rw [if_neg e] at h
      obtain ⟨m, hm, rfl⟩ := Option.map_eq_some_iff.1 h
      obtain ⟨i1, i2⟩ := idx_some hm
      refine ⟨by simpa using i1, fun j hj => ?_⟩
      cases j with
      | zero => simpa using e
      | succ j => simpa using i2 j (by omega)
theorem idx_none {x : α} : ∀ {b : List α}, idx x b = none → ∀ j : Nat, b[j]? ≠ some x
  | [], _, j => by simp
  | y :: b, h, j => by
    unfold idx at h
    by_cases e : y = x
    · rw [if_pos e] at h; cases h
    · rw [if_neg e] at h
      have h' : idx x b = none := by simpa using h
      cases j with
      | zero => simpa using e
      | succ j => simpa using idx_none h' j

/-- for each member of a its partner in b, counted from j -/
def comm : List α → List α → Nat → List (Option Nat)
  | [], _, _ => []
  | x :: a, b, j => match idx x b with
    | some k => if 1 + lcs a (b.drop (k + 1)) = lcs (x :: a) b then some (j + k) :: comm a (b.drop (k + 1)) (j + k + 1) else none :: comm a b j
    | none => none :: comm a b j
theorem comm_len : ∀ (a b : List α) (j : Nat), (comm a b j).length = a.length
  | [], b, j => rfl
  | x :: a, b, j => by
    unfold comm
    split
    · split
      · rw [List.length_cons, comm_len a]; rfl
      · rw [List.length_cons, comm_len a]; rfl
    · rw [List.length_cons, comm_len a]; rfl
/-- the pairs of a list of partners -/
def prs : List (Option Nat) → Nat → List (Nat × Nat)
  | [], _ => []
  | some j :: l, i => (i, j) :: prs l (i + 1)
  | none :: l, i => prs l (i + 1)
def pairs (a b : List α) (i j : Nat) : List (Nat × Nat) := prs (comm a b j) i

/-- a member is paired, or it is not, and then nothing is lost by leaving it -/
theorem comm_cons (x : α) (a b : List α) (j : Nat) :
    (∃ k, idx x b = some k ∧ lcs (x :: a) b = 1 + lcs a (b.drop (k + 1)) ∧ comm (x :: a) b j = some (j + k) :: comm a (b.drop (k + 1)) (j + k + 1)) ∨
    ((∀ k : Nat, b[k]? = some x → 1 + lcs a (b.drop (k + 1)) ≠ lcs (x :: a) b) ∧ lcs (x :: a) b = lcs a b ∧ comm (x :: a) b j = none :: comm a b j) := by
  cases h : idx x b with
  | none =>
    have hn := idx_none h
    refine .inr ⟨fun k hk => absurd hk (hn k), ?_, ?_⟩
    · rcases lcs_row (x := x) (a := a) b with h1 | ⟨k, h1, _⟩
      · exact h1
      · exact absurd h1 (hn k)
    · conv => lhs; unfold comm
      rw [h]
  | some k =>
    obtain ⟨h1, h2⟩ := idx_some h
    by_cases e : 1 + lcs a (b.drop (k + 1)) = lcs (x :: a) b
    · refine .inl ⟨k, rfl, e.symm, ?_⟩
      conv => lhs; unfold comm
      rw [h]
      simp only
      rw [if_pos e]
    · have hno : ∀ m : Nat, b[m]? = some x → 1 + lcs a (b.drop (m + 1)) ≠ lcs (x :: a) b := by
        intro m hm he
        have hkm : k ≤ m := by
          rcases Nat.lt_or_ge m k with h3 | h3
          · exact absurd hm (h2 m h3)
          · exact h3
        have h4 := lcs_drop_le a b (show k + 1 ≤ m + 1 by omega)
        have h5 := lcs_pair (a := a) h1
        omega
      refine .inr ⟨hno, ?_, ?_⟩
      · rcases lcs_row (x := x) (a := a) b with h3 | ⟨m, h3, h4⟩
        · exact h3
        · exact absurd h4.symm (hno m h3)
      · conv => lhs; unfold comm
        rw [h]
        simp only
        rw [if_neg e]

/-- no pairs are left -/
theorem pairs_zero : ∀ (a b : List α) (i j : Nat), lcs a b = 0 → pairs a b i j = []
  | [], b, i, j, _ => rfl
  | x :: a, b, i, j, h => by
    rcases comm_cons x a b j with ⟨k, _, h2, _⟩ | ⟨_, h2, h3⟩
    · omega
    · unfold pairs
      rw [h3]
      exact pairs_zero a b (i + 1) j (by omega)
/-- the reference's first pair, of all that begin as many pairs as there can be -/
def fstPair (L : Nat) (a b : List α) (x y : Nat) : Prop := ∃ u, a[x]? = some u ∧ b[y]? = some u ∧ lcs (a.drop (x + 1)) (b.drop (y + 1)) + 1 = L
theorem pairs_first : ∀ (a b : List α) (i j : Nat), 0 < lcs a b → ∃ x y, fstPair (lcs a b) a b x y ∧
    (∀ x' y' : Nat, x' < x ∨ (x' = x ∧ y' < y) → ¬ fstPair (lcs a b) a b x' y') ∧
    pairs a b i j = (i + x, j + y) :: pairs (a.drop (x + 1)) (b.drop (y + 1)) (i + x + 1) (j + y + 1)
  | [], b, i, j, h => by rw [lcs_nil] at h; omega
  | u :: a, b, i, j, h => by
    rcases comm_cons u a b j with ⟨k, h1, h2, h3⟩ | ⟨h1, h2, h3⟩
    · obtain ⟨g1, g2⟩ := idx_some h1
      refine ⟨0, k, ⟨u, rfl, g1, by rw [h2]; exact Nat.add_comm _ _⟩, ?_, ?_⟩
      · rintro x' y' (hx | ⟨rfl, hy⟩) ⟨v, e1, e2, _⟩
        · omega
        · have : u = v := by simpa using e1
          subst this
          exact g2 y' hy e2
      · unfold pairs
        rw [h3]
        rfl
    · obtain ⟨x, y, ⟨v, f1, f2, f3⟩, f4, f5⟩ := pairs_first a b (i + 1) j (by omega)
      refine ⟨x + 1, y, ⟨v, by simpa using f1, f2, by rw [h2]; exact f3⟩, ?_, ?_⟩
      · rintro x' y' hxy ⟨v', e1, e2, e3⟩
        cases x' with
        | zero =>
          have : u = v' := by simpa using e1
          subst this
          exact h1 y' e2 (by rw [← e3]; exact Nat.add_comm _ _)
        | succ x' =>
          refine f4 x' y' ?_ ⟨v', by simpa using e1, e2, by rw [← h2]; exact e3⟩
          omega
      · unfold pairs at f5 ⊢
        rw [h3]
        show prs (comm a b j) (i + 1) = _
        rw [f5]
        simp only [List.drop_succ_cons]
        congr 2
        · omega
        · omega

/-- what pairs are -/
def Prs (a b : List α) : Nat → Nat → List (Nat × Nat) → Prop
  | _, _, [] => True
  | i, j, p :: l => i ≤ p.1 ∧ j ≤ p.2 ∧ (∃ u, a[p.1]? = some u ∧ b[p.2]? = some u) ∧ Prs a b (p.1 + 1) (p.2 + 1) l
theorem comm_prs (A B : List α) : ∀ (a b : List α) (i j : Nat), a = A.drop i → b = B.drop j → Prs A B i j (pairs a b i j) ∧ (pairs a b i j).length = lcs a b
  | [], b, i, j, _, _ => ⟨trivial, rfl⟩
  | x :: a, b, i, j, ha, hb => by
    have hx : A[i]? = some x := by
      have : (A.drop i)[0]? = some x := by rw [← ha]; rfl
      simpa using this
    have ha' : a = A.drop (i + 1) := by
      have : (A.drop i).drop 1 = a := by rw [← ha]; rfl
      rw [← this, List.drop_drop]
    rcases comm_cons x a b j with ⟨k, h1, h2, h3⟩ | ⟨h1, h2, h3⟩
    · obtain ⟨g1, _⟩ := idx_some h1
      have hk : B[j + k]? = some x := by rw [hb, List.getElem?_drop] at g1; exact g1
      obtain ⟨i1, i2⟩ := comm_prs A B a (b.drop (k + 1)) (i + 1) (j + k + 1) ha' (by rw [hb, List.drop_drop]; congr 1)
      have e : pairs (x :: a) b i j = (i, j + k) :: pairs a (b.drop (k + 1)) (i + 1) (j + k + 1) := by
        unfold pairs
        rw [h3]
        rfl
      rw [e]
      refine ⟨⟨Nat.le_refl _, by omega, ⟨x, hx, hk⟩, i1⟩, ?_⟩
      rw [List.length_cons, i2, h2]
      omega
    · obtain ⟨i1, i2⟩ := comm_prs A B a b (i + 1) j ha' hb
      have e : pairs (x :: a) b i j = pairs a b (i + 1) j := by
        unfold pairs
        rw [h3]
        rfl
      rw [e, h2]
      refine ⟨?_, i2⟩
      generalize pairs a b (i + 1) j = l at *
      cases l with
      | nil => trivial
      | cons p l => exact ⟨by have := i1.1; omega, i1.2⟩
/-- as many pairs as there are, and not more -/
theorem prs_le (A B : List α) : ∀ (l : List (Nat × Nat)) (i j : Nat), Prs A B i j l → l.length ≤ lcs (A.drop i) (B.drop j)
  | [], i, j, _ => Nat.zero_le _
  | p :: l, i, j, h => by
    obtain ⟨h1, h2, ⟨u, h3, h4⟩, h5⟩ := h
    have ih := prs_le A B l _ _ h5
    have e1 : A.drop p.1 = u :: A.drop (p.1 + 1) := by
      obtain ⟨hl, he⟩ := List.getElem?_eq_some_iff.1 h3
      rw [List.drop_eq_getElem_cons hl, he]
    have h6 : 1 + lcs (A.drop (p.1 + 1)) (B.drop (p.2 + 1)) ≤ lcs (A.drop p.1) (B.drop p.2) := by
      rw [e1]
      have := lcs_pair (x := u) (a := A.drop (p.1 + 1)) (b := B.drop p.2) (k := 0) (by simpa using h4)
      rw [List.drop_drop] at this
      exact this
    have h7 := lcs_drop_le (A.drop p.1) B h2
    have h8 : lcs (A.drop p.1) (B.drop j) ≤ lcs (A.drop i) (B.drop j) := by
      have : ∀ (m : Nat) (a b : List α), lcs (a.drop m) b ≤ lcs a b := by
        intro m
        induction m with
        | zero => intro a b; exact Nat.le_refl _
        | succ m ihm =>
          intro a b
          cases a with
          | nil => exact Nat.le_refl _
          | cons z a => exact Nat.le_trans (ihm a b) (lcs_mono a b z z).1
      have e : A.drop p.1 = (A.drop i).drop (p.1 - i) := by rw [List.drop_drop]; congr 1; omega
      rw [e]
      exact this _ _ _
    rw [List.length_cons]
    omega
end
end Go.Proofs.YtfhkmmicdbblnaaDoor

/-
  Scripts: what they make of a list, the script between two lists, and that it is the shortest: plain facts, no program in sight.
-/
namespace Go.Proofs.YtfhkmmicdbblnaaDoor
set_option linter.unusedSimpArgs false
set_option linter.unusedVariables false

section
variable {α : Type}

/-- the hunks between pairs: from, to, what stands there -/
def scr (b : List α) : List (Nat × Nat) → Nat → Nat → List (Nat × Nat × List α)
  | [], _, _ => []
  | p :: l, f, t => (if f < p.1 ∨ t < p.2 then [(f, p.1, (b.drop t).take (p.2 - t))] else []) ++ scr b l (p.1 + 1) (p.2 + 1)
def diffL [DecidableEq α] (a b : List α) : List (Nat × Nat × List α) := scr b (pairs a b 0 0 ++ [(a.length, b.length)]) 0 0
/-- what hunks make of a list, from a place on -/
def apl (a : List α) : List (Nat × Nat × List α) → Nat → List α
  | [], t => a.drop t
  | h :: l, t => (a.drop t).take (h.1 - t) ++ (h.2.2 ++ apl a l h.2.1)
/-- hunks that are a script: last is the number of the first line that a hunk may begin at -/
def scrOk (n : Nat) : List (Nat × Nat × List α) → Nat → Bool
  | [], _ => true
  | h :: l, s => decide (s ≤ h.1 ∧ h.1 ≤ h.2.1 ∧ h.2.1 ≤ n ∧ (h.1 = h.2.1 → h.2.2 ≠ [])) && scrOk n l (h.2.1 + 1)
/-- how many lines are left -/
def left (n : Nat) : List (Nat × Nat × List α) → Nat → Nat
  | [], t => n - t
  | h :: l, t => (h.1 - t) + left n l h.2.1

/-- one line ahead of the hunks -/
theorem apl_step {a : List α} {x : α} {t : Nat} (hx : a[t]? = some x) : ∀ (l : List (Nat × Nat × List α)), (∀ h ∈ l.head?, t + 1 ≤ h.1) → apl a l t = x :: apl a l (t + 1)
  | [], _ => by
    obtain ⟨hl, he⟩ := List.getElem?_eq_some_iff.1 hx
    show a.drop t = x :: a.drop (t + 1)
    rw [List.drop_eq_getElem_cons hl, he]
  | h :: l, hh => by
    have h1 : t + 1 ≤ h.1 := hh h (by simp)
    obtain ⟨hl, he⟩ := List.getElem?_eq_some_iff.1 hx
    show (a.drop t).take (h.1 - t) ++ _ = x :: ((a.drop (t + 1)).take (h.1 - (t + 1)) ++ _)
    rw [List.drop_eq_getElem_cons hl, he, show h.1 - t = (h.1 - (t + 1)) + 1 by omega, List.take_succ_cons, List.cons_append]

/-- the script between two lists makes the one of the other -/
theorem scr_back (A B : List α) : ∀ (l : List (Nat × Nat)) (i j : Nat), Prs A B i j l → i ≤ A.length → j ≤ B.length →
    apl A (scr B (l ++ [(A.length, B.length)]) i j) i = B.drop j ∧ scrOk A.length (scr B (l ++ [(A.length, B.length)]) i j) i = true ∧
    (∀ h ∈ scr B (l ++ [(A.length, B.length)]) i j, i ≤ h.1) ∧ left A.length (scr B (l ++ [(A.length, B.length)]) i j) i = l.length
  | [], i, j, _, hi, hj => by
    rw [List.nil_append]
    unfold scr
    by_cases c : i < A.length ∨ j < B.length
    · rw [if_pos c]
      have e : (B.drop j).take (B.length - j) = B.drop j := List.take_of_length_le (by rw [List.length_drop]; exact Nat.le_refl _)
      rw [e]
      refine ⟨?_, ?_, ?_, ?_⟩
      · show (A.drop i).take (i - i) ++ (B.drop j ++ A.drop A.length) = B.drop j
        rw [Nat.sub_self, List.take_zero, List.nil_append, List.drop_length, List.append_nil]
      · show (decide _ && true) = true
        rw [Bool.and_true, decide_eq_true_eq]
        refine ⟨Nat.le_refl _, hi, Nat.le_refl _, fun he hn => ?_⟩
        have : (B.drop j).length = 0 := by
          have hn' : B.drop j = [] := hn
          rw [hn']; rfl
        rw [List.length_drop] at this
        simp only at he
        omega
      · intro h hh
        have : h = (i, A.length, B.drop j) := by simpa [scr] using hh
        rw [this]
        exact Nat.le_refl _
      · show (i - i) + (A.length - A.length) = 0
        omega
    · rw [if_neg c]
      have e1 : i = A.length := by omega
      have e2 : j = B.length := by omega
      subst e1 e2
      refine ⟨?_, rfl, fun h hh => (by cases hh), ?_⟩
      · show A.drop A.length = B.drop B.length
        rw [List.drop_length, List.drop_length]
      · show A.length - A.length = 0
        omega
  | p :: l, i, j, h, hi, hj => by
    obtain ⟨h1, h2, ⟨u, h3, h4⟩, h5⟩ := h
    have l3 := (List.getElem?_eq_some_iff.1 h3).1
    have l4 := (List.getElem?_eq_some_iff.1 h4).1
    obtain ⟨i1, i2, i3, i4⟩ := scr_back A B l (p.1 + 1) (p.2 + 1) h5 (by omega) (by omega)
    rw [List.cons_append]
    unfold scr
    generalize scr B (l ++ [(A.length, B.length)]) (p.1 + 1) (p.2 + 1) = hs at *
    have hstep : apl A hs p.1 = u :: apl A hs (p.1 + 1) := apl_step h3 hs (fun h hh => i3 h (List.mem_of_mem_head? hh))
    have hB : B.drop p.2 = u :: B.drop (p.2 + 1) := by
      obtain ⟨hl, he⟩ := List.getElem?_eq_some_iff.1 h4
      rw [List.drop_eq_getElem_cons hl, he]
    have hleft : left A.length hs p.1 = left A.length hs (p.1 + 1) + 1 := by
      cases hs with
      | nil => show A.length - p.1 = A.length - (p.1 + 1) + 1; omega
      | cons h hs =>
        have := i3 h (by simp)
        show (h.1 - p.1) + _ = (h.1 - (p.1 + 1)) + _ + 1
        omega
    by_cases c : i < p.1 ∨ j < p.2
    · rw [if_pos c, List.singleton_append]
      refine ⟨?_, ?_, ?_, ?_⟩
      · show (A.drop i).take (i - i) ++ ((B.drop j).take (p.2 - j) ++ apl A hs p.1) = B.drop j
        rw [Nat.sub_self, List.take_zero, List.nil_append, hstep, i1, ← hB]
        have e : B.drop p.2 = (B.drop j).drop (p.2 - j) := by rw [List.drop_drop]; congr 1; omega
        rw [e, List.take_append_drop]
      · show (decide _ && scrOk A.length hs (p.1 + 1)) = true
        rw [i2, Bool.and_true, decide_eq_true_eq]
        refine ⟨Nat.le_refl _, h1, by simp only; omega, fun he hn => ?_⟩
        have : ((B.drop j).take (p.2 - j)).length = 0 := by
          have hn' : (B.drop j).take (p.2 - j) = [] := hn
          rw [hn']; rfl
        rw [List.length_take, List.length_drop] at this
        simp only at he
        omega
      · intro h hh
        rcases List.mem_cons.1 hh with rfl | hh
        · exact Nat.le_refl _
        · have := i3 h hh; omega
      · show (i - i) + left A.length hs p.1 = l.length + 1
        rw [hleft, i4]
        omega
    · rw [if_neg c, List.nil_append]
      have e1 : i = p.1 := by omega
      have e2 : j = p.2 := by omega
      subst e1 e2
      refine ⟨by rw [hstep, i1, ← hB], ?_, fun h hh => by have := i3 h hh; omega, by rw [hleft, i4]; rfl⟩
      cases hs with
      | nil => rfl
      | cons h hs =>
        unfold scrOk at i2 ⊢
        rw [Bool.and_eq_true, decide_eq_true_eq] at i2 ⊢
        exact ⟨⟨by omega, i2.1.2⟩, i2.2⟩
theorem scr_diag (b : List α) : ∀ (n i : Nat), scr b ((List.range n).map (fun k => (i + k, i + k)) ++ [(i + n, i + n)]) i i = []
  | 0, i => by
    show (if i < i + 0 ∨ i < i + 0 then _ else []) ++ [] = []
    rw [if_neg (by omega)]
    rfl
  | n + 1, i => by
    rw [List.range_succ_eq_map, List.map_cons, List.map_map, List.cons_append]
    unfold scr
    rw [if_neg (by simp)]
    have e : (fun k => (i + k, i + k)) ∘ Nat.succ = fun k => (i + 1 + k, i + 1 + k) := by
      funext k
      show (i + (k + 1), i + (k + 1)) = (i + 1 + k, i + 1 + k)
      congr 1 <;> omega
    rw [e, List.nil_append]
    have := scr_diag b n (i + 1)
    rw [show i + 1 + n = i + (n + 1) by omega] at this
    exact this
end
section
variable {α : Type} [DecidableEq α]
theorem diff_back (a b : List α) : apl a (diffL a b) 0 = b ∧ scrOk a.length (diffL a b) 0 = true ∧ left a.length (diffL a b) 0 = lcs a b := by
  obtain ⟨h1, h2⟩ := comm_prs a b a b 0 0 rfl rfl
  obtain ⟨i1, i2, _, i4⟩ := scr_back a b _ 0 0 h1 (Nat.zero_le _) (Nat.zero_le _)
  exact ⟨i1, i2, by rw [← h2]; exact i4⟩

/-- a text's script to itself is empty -/
theorem comm_self : ∀ (a : List α) (j : Nat), comm a a j = (List.range a.length).map (fun i => some (j + i))
  | [], j => rfl
  | x :: a, j => by
    conv => lhs; unfold comm
    have e : idx x (x :: a) = some 0 := by unfold idx; rw [if_pos rfl]
    rw [e]
    simp only
    rw [if_pos (by rw [lcs_cons, if_pos rfl]; rfl)]
    show some (j + 0) :: comm a a (j + 0 + 1) = _
    rw [comm_self a, List.length_cons, List.range_succ_eq_map, List.map_cons, List.map_map]
    congr 1
    apply List.map_congr_left
    intro i _
    show some (j + 0 + 1 + i) = some (j + (i + 1))
    congr 1
    omega
theorem prs_range (n i j : Nat) : prs ((List.range n).map (fun k => some (j + k))) i = (List.range n).map (fun k => (i + k, j + k)) := by
  induction n generalizing i j with
  | zero => rfl
  | succ n ih =>
    rw [List.range_succ_eq_map, List.map_cons, List.map_cons, List.map_map, List.map_map]
    show (i, j + 0) :: prs _ (i + 1) = _
    have e : (fun k => some (j + k)) ∘ Nat.succ = fun k => some (j + 1 + k) := by
      funext k
      show some (j + (k + 1)) = some (j + 1 + k)
      congr 1
      omega
    rw [e, ih (i + 1) (j + 1)]
    congr 1
    apply List.map_congr_left
    intro k _
    show (i + 1 + k, j + 1 + k) = (i + (k + 1), j + (k + 1))
    congr 1 <;> omega
theorem diff_self (a : List α) : diffL a a = [] := by
  unfold diffL pairs
  rw [comm_self, prs_range]
  have := scr_diag a a.length 0
  simpa using this
theorem diff_nil {a b : List α} : diffL a b = [] ↔ a = b := by
  constructor
  · intro h
    have := (diff_back a b).1
    rw [h] at this
    exact this
  · rintro rfl
    exact diff_self a

/-- no script leaves more -/
theorem lcs_app (u v w : List α) : u.length + lcs v w ≤ lcs (u ++ v) (u ++ w) := by
  induction u with
  | nil => simp
  | cons x u ih =>
    rw [List.cons_append, List.cons_append, lcs_cons, if_pos rfl, List.length_cons]
    omega
theorem lcs_app2 (v ls w : List α) : lcs v w ≤ lcs v (ls ++ w) := by
  induction ls with
  | nil => exact Nat.le_refl _
  | cons x ls ih => exact Nat.le_trans ih (lcs_mono v (ls ++ w) x x).2.1
theorem lcs_dropA (a b : List α) (m : Nat) : lcs (a.drop m) b ≤ lcs a b := by
  induction m generalizing a with
  | zero => exact Nat.le_refl _
  | succ m ih =>
    cases a with
    | nil => exact Nat.le_refl _
    | cons x a => exact Nat.le_trans (ih a) (lcs_mono a b x x).1
theorem left_le (a : List α) : ∀ (l : List (Nat × Nat × List α)) (s t : Nat), scrOk a.length l s = true → t ≤ s → t ≤ a.length → left a.length l t ≤ lcs (a.drop t) (apl a l t)
  | [], s, t, _, _, h => by
    show a.length - t ≤ lcs (a.drop t) (a.drop t)
    have := lcs_app (a.drop t) ([] : List α) []
    simp at this
    omega
  | h :: l, s, t, hs, hst, ht => by
    unfold scrOk at hs
    rw [Bool.and_eq_true, decide_eq_true_eq] at hs
    obtain ⟨⟨h1, h2, h3, _⟩, h5⟩ := hs
    have ih := left_le a l (h.2.1 + 1) h.2.1 h5 (by omega) h3
    show (h.1 - t) + left a.length l h.2.1 ≤ lcs (a.drop t) ((a.drop t).take (h.1 - t) ++ (h.2.2 ++ apl a l h.2.1))
    have e : a.drop t = (a.drop t).take (h.1 - t) ++ a.drop h.1 := by
      have e2 : a.drop h.1 = (a.drop t).drop (h.1 - t) := by rw [List.drop_drop]; congr 1; omega
      rw [e2, List.take_append_drop]
    have k1 := lcs_app ((a.drop t).take (h.1 - t)) (a.drop h.1) (h.2.2 ++ apl a l h.2.1)
    rw [← e] at k1
    have k2 := lcs_app2 (a.drop h.1) h.2.2 (apl a l h.2.1)
    have k3 : lcs (a.drop h.2.1) (apl a l h.2.1) ≤ lcs (a.drop h.1) (apl a l h.2.1) := by
      have e2 : a.drop h.2.1 = (a.drop h.1).drop (h.2.1 - h.1) := by rw [List.drop_drop]; congr 1; omega
      rw [e2]
      exact lcs_dropA _ _ _
    have k4 : ((a.drop t).take (h.1 - t)).length = h.1 - t := by rw [List.length_take, List.length_drop]; omega
    omega
theorem shortest (a : List α) (l : List (Nat × Nat × List α)) (h : scrOk a.length l 0 = true) : left a.length l 0 ≤ left a.length (diffL a (apl a l 0)) 0 := by
  rw [(diff_back a (apl a l 0)).2.2]
  exact left_le a l 0 0 h (Nat.le_refl _) (Nat.zero_le _)
end
end Go.Proofs.YtfhkmmicdbblnaaDoor

/-
  The lines of a text: plain facts, no program in sight.
-/
namespace Go.Proofs.YtfhkmmicdbblnaaDoor
set_option linter.unusedSimpArgs false
set_option linter.unusedVariables false

/-- the lines of a text -/
def lns : List UInt8 → List (List UInt8)
  | [] => []
  | c :: l => if c = 10 then [c] :: lns l else match lns l with
    | [] => [[c]]
    | x :: xs => (c :: x) :: xs
theorem lns_nl (l : List UInt8) : lns (10 :: l) = [10] :: lns l := by
  conv => lhs; unfold lns
  rw [if_pos rfl]
theorem lns_cons {c : UInt8} (h : c ≠ 10) (l : List UInt8) : lns (c :: l) = match lns l with
    | [] => [[c]]
    | x :: xs => (c :: x) :: xs := by
  conv => lhs; unfold lns
  rw [if_neg h]
theorem lns_nil {l : List UInt8} : lns l = [] ↔ l = [] := by
  constructor
  · intro h
    cases l with
    | nil => rfl
    | cons c l =>
      by_cases e : c = 10
      · subst e; rw [lns_nl] at h; cases h
      · rw [lns_cons e] at h
        cases hl : lns l with
        | nil => rw [hl] at h; cases h
        | cons x xs => rw [hl] at h; cases h
  · rintro rfl; rfl
theorem lns_flat : ∀ l : List UInt8, (lns l).flatten = l
  | [] => rfl
  | c :: l => by
    by_cases e : c = 10
    · subst e; rw [lns_nl, List.flatten_cons, lns_flat l]; rfl
    · have ih := lns_flat l
      rw [lns_cons e]
      cases hl : lns l with
      | nil =>
        have : l = [] := lns_nil.1 hl
        subst this
        rfl
      | cons x xs =>
        rw [hl] at ih
        simp only [List.flatten_cons] at ih ⊢
        rw [List.cons_append, ih]
/-- a text that is one line -/
def isLn (x : List UInt8) : Bool := !x.isEmpty && (x.dropLast.all (· != 10))
theorem isLn_cons {c : UInt8} {x : List UInt8} (h : c ≠ 10) (hx : isLn x = true) : isLn (c :: x) = true := by
  cases x with
  | nil => cases hx
  | cons d y =>
    unfold isLn at hx ⊢
    rw [Bool.and_eq_true] at hx
    rw [List.dropLast_cons_cons, List.all_cons, hx.2]
    simp [h]
theorem lns_line : ∀ (l : List UInt8) (x : List UInt8), x ∈ lns l → isLn x = true
  | [], x, h => by cases h
  | c :: l, x, h => by
    by_cases e : c = 10
    · subst e
      rw [lns_nl] at h
      rcases List.mem_cons.1 h with rfl | h
      · rfl
      · exact lns_line l x h
    · rw [lns_cons e] at h
      cases hl : lns l with
      | nil =>
        rw [hl] at h
        simp only [List.mem_singleton] at h
        subst h
        rfl
      | cons y ys =>
        rw [hl] at h
        rcases List.mem_cons.1 h with rfl | h
        · exact isLn_cons e (lns_line l y (by rw [hl]; simp))
        · exact lns_line l x (by rw [hl]; simp [h])
/-- whether a line ends with a newline -/
def endNl (x : List UInt8) : Bool := x.getLast? == some 10
theorem lns_app : ∀ (x l : List UInt8), isLn x = true → endNl x = true → lns (x ++ l) = x :: lns l
  | [], l, h, _ => by cases h
  | [c], l, _, h => by
    have : c = 10 := by simpa [endNl] using h
    subst this
    exact lns_nl l
  | c :: d :: y, l, h, k => by
    have hc : c ≠ 10 := by
      unfold isLn at h
      rw [Bool.and_eq_true, List.dropLast_cons_cons, List.all_cons, Bool.and_eq_true] at h
      simpa using h.2.1
    have h2 : isLn (d :: y) = true := by
      unfold isLn at h ⊢
      rw [Bool.and_eq_true, List.dropLast_cons_cons, List.all_cons, Bool.and_eq_true] at h
      rw [h.2.2]
      rfl
    have k2 : endNl (d :: y) = true := by
      unfold endNl at k ⊢
      rw [List.getLast?_cons_cons] at k
      exact k
    rw [List.cons_append, lns_cons hc, lns_app (d :: y) l h2 k2]
theorem lns_one : ∀ (x : List UInt8), isLn x = true → lns x = [x]
  | [], h => by cases h
  | [c], h => by
    by_cases e : c = 10
    · subst e; rfl
    · rw [lns_cons e]; rfl
  | c :: d :: y, h => by
    have hc : c ≠ 10 := by
      unfold isLn at h
      rw [Bool.and_eq_true, List.dropLast_cons_cons, List.all_cons, Bool.and_eq_true] at h
      simpa using h.2.1
    have h2 : isLn (d :: y) = true := by
      unfold isLn at h ⊢
      rw [Bool.and_eq_true, List.dropLast_cons_cons, List.all_cons, Bool.and_eq_true] at h
      rw [h.2.2]
      rfl
    rw [lns_cons hc, lns_one (d :: y) h2]
theorem lns_single {x : List UInt8} : (lns x).length = 1 ↔ isLn x = true := by
  constructor
  · intro h
    obtain ⟨y, hy⟩ := List.length_eq_one_iff.1 h
    have hf := lns_flat x
    rw [hy] at hf
    have : y = x := by simpa using hf
    subst this
    exact lns_line y y (by rw [hy]; simp)
  · intro h
    rw [lns_one x h]
    rfl
/-- lines, all but the last ending with a newline, are the lines of their text -/
def linesOk : List (List UInt8) → Bool
  | [] => true
  | [x] => isLn x
  | x :: xs => isLn x && (endNl x && linesOk xs)
theorem lns_join : ∀ (xs : List (List UInt8)), linesOk xs = true → lns xs.flatten = xs
  | [], _ => rfl
  | [x], h => by
    rw [List.flatten_cons, List.flatten_nil, List.append_nil]
    exact lns_one x h
  | x :: y :: xs, h => by
    unfold linesOk at h
    rw [Bool.and_eq_true, Bool.and_eq_true] at h
    rw [List.flatten_cons, lns_app x _ h.1 h.2.1, lns_join (y :: xs) h.2.2]
theorem endNl_cons (c : UInt8) {x : List UInt8} (h : x ≠ []) : endNl (c :: x) = endNl x := by
  cases x with
  | nil => exact absurd rfl h
  | cons d y =>
    unfold endNl
    rw [List.getLast?_cons_cons]
theorem lns_ok : ∀ l : List UInt8, linesOk (lns l) = true
  | [] => rfl
  | c :: l => by
    have ih := lns_ok l
    by_cases e : c = 10
    · subst e
      rw [lns_nl]
      cases hl : lns l with
      | nil => rfl
      | cons x xs =>
        rw [hl] at ih
        show (isLn [10] && (endNl [10] && linesOk (x :: xs))) = true
        rw [ih]
        rfl
    · rw [lns_cons e]
      cases hl : lns l with
      | nil => rfl
      | cons x xs =>
        rw [hl] at ih
        have hx : isLn x = true := lns_line l x (by rw [hl]; simp)
        have hne : x ≠ [] := by rintro rfl; cases hx
        cases xs with
        | nil => exact isLn_cons e hx
        | cons y ys =>
          unfold linesOk at ih ⊢
          rw [Bool.and_eq_true, Bool.and_eq_true] at ih
          rw [isLn_cons e hx, endNl_cons c hne, ih.2.1, ih.2.2]
          rfl
theorem lns_inj {a b : List UInt8} (h : lns a = lns b) : a = b := by rw [← lns_flat a, ← lns_flat b, h]
/-- the first line ends behind the first newline -/
theorem lns_cut : ∀ (l : List UInt8), l ≠ [] → ∃ e, 0 < e ∧ e ≤ l.length ∧ lns l = l.take e :: lns (l.drop e) ∧ (Lib.indexByte l 10 = -1 → e = l.length) ∧ (Lib.indexByte l 10 ≠ -1 → (e : Int) = Lib.indexByte l 10 + 1)
  | [], h => absurd rfl h
  | c :: l, _ => by
    by_cases e : c = 10
    · subst e
      refine ⟨1, by omega, by simp, by rw [lns_nl]; rfl, fun h => ?_, fun h => ?_⟩
      · unfold Lib.indexByte at h
        rw [if_pos (by decide)] at h
        cases h
      · unfold Lib.indexByte
        rw [if_pos (by decide)]
        rfl
    · have hg := Lib.indexByte_ge l 10
      have hstep : Lib.indexByte (c :: l) 10 = if Lib.indexByte l 10 = -1 then -1 else Lib.indexByte l 10 + 1 := by
        conv => lhs; unfold Lib.indexByte
        rw [if_neg (by simpa using e)]
        by_cases hk : Lib.indexByte l 10 = -1
        · rw [if_pos (by simpa using hk), if_pos hk]
        · rw [if_neg (by simpa using hk), if_neg hk]
      cases l with
      | nil =>
        refine ⟨1, by omega, by simp, by rw [lns_cons e]; rfl, fun _ => rfl, fun h => ?_⟩
        rw [hstep] at h
        exact absurd rfl h
      | cons d l =>
        obtain ⟨n, h1, h2, h3, h4, h5⟩ := lns_cut (d :: l) (by simp)
        refine ⟨n + 1, by omega, by simp only [List.length_cons] at h2 ⊢; omega, ?_, fun h => ?_, fun h => ?_⟩
        · rw [lns_cons e, h3]
          rfl
        · rw [hstep] at h
          by_cases hk : Lib.indexByte (d :: l) 10 = -1
          · rw [h4 hk]; rfl
          · rw [if_neg hk] at h; omega
        · rw [hstep] at h ⊢
          by_cases hk : Lib.indexByte (d :: l) 10 = -1
          · rw [if_pos hk] at h; exact absurd rfl h
          · rw [if_neg hk] at h ⊢
            have := h5 hk
            omega
theorem lns_len : ∀ l : List UInt8, (lns l).length ≤ l.length
  | [] => Nat.le_refl _
  | c :: l => by
    have ih := lns_len l
    by_cases e : c = 10
    · subst e; rw [lns_nl]; simp; omega
    · rw [lns_cons e]
      cases hl : lns l with
      | nil => simp
      | cons x xs => rw [hl] at ih; simp at ih ⊢; omega
end Go.Proofs.YtfhkmmicdbblnaaDoor

/-
  The lines of a text, as the library splits it: plain facts, no program in sight.
-/
namespace Go.Proofs.YtfhkmmicdbblnaaDoor
set_option linter.unusedSimpArgs false
set_option linter.unusedVariables false

theorem index_one (c : UInt8) : ∀ l : List UInt8, Lib.index l [c] = Lib.indexByte l c
  | [] => rfl
  | b :: l => by
    unfold Lib.index Lib.indexByte
    rw [index_one c l]
    by_cases e : b = c
    · subst e
      rw [if_pos (by simp), if_pos (by simp)]
    · have h1 : ¬ [c].isPrefixOf (b :: l) = true := by simp; exact fun h => e h.symm
      have h2 : ¬ (b == c) = true := by simpa using e
      rw [if_neg h1, if_neg h2]
/-- a list without its last member, if that is empty -/
def cutEnd (xs : List (List UInt8)) : List (List UInt8) := if xs.getLast? = some [] then xs.dropLast else xs
theorem cutEnd_cons (x : List UInt8) {xs : List (List UInt8)} (h : xs ≠ []) : cutEnd (x :: xs) = x :: cutEnd xs := by
  cases xs with
  | nil => exact absurd rfl h
  | cons y ys =>
    unfold cutEnd
    rw [List.getLast?_cons_cons]
    split
    · rfl
    · rfl
theorem splitK_ne (sep : List UInt8) (sv : Nat) : ∀ (k : Nat) (l : List UInt8), Lib.splitK sep sv k l ≠ []
  | 0, l => by simp [Lib.splitK]
  | k + 1, l => by
    unfold Lib.splitK
    split <;> simp
theorem lns_split : ∀ (k : Nat) (l : List UInt8), l.count 10 = k → cutEnd (Lib.splitK [10] 1 k l) = lns l := by
  intro k
  induction k with
  | zero =>
    intro l h
    show cutEnd [l] = lns l
    cases l with
    | nil => rfl
    | cons c l =>
      have hno : (10 : UInt8) ∉ (c :: l) := List.count_eq_zero.1 h
      have hline : isLn (c :: l) = true := by
        unfold isLn
        rw [Bool.and_eq_true]
        refine ⟨rfl, List.all_eq_true.2 fun x hx => ?_⟩
        have := List.dropLast_subset _ hx
        rw [bne_iff_ne]
        rintro rfl
        exact hno this
      rw [lns_one _ hline]
      rfl
  | succ k ih =>
    intro l h
    have hmem : (10 : UInt8) ∈ l := List.count_pos_iff.1 (by omega)
    have hne : l ≠ [] := by rintro rfl; cases hmem
    obtain ⟨e, h1, h2, h3, h4, h5⟩ := lns_cut l hne
    have hi : Lib.indexByte l 10 ≠ -1 := by
      intro hn
      have : ∀ l : List UInt8, Lib.indexByte l 10 = -1 → (10 : UInt8) ∉ l := by
        intro l
        induction l with
        | nil => intro _; simp
        | cons b l ihl =>
          intro hb
          unfold Lib.indexByte at hb
          by_cases e : b = 10
          · subst e
            rw [if_pos (by decide)] at hb
            cases hb
          · rw [if_neg (by simpa using e)] at hb
            by_cases hk : Lib.indexByte l 10 = -1
            · simp only [List.mem_cons, not_or]
              exact ⟨fun h => e h.symm, ihl hk⟩
            · have := Lib.indexByte_ge l 10
              rw [if_neg (by simpa using hk)] at hb
              omega
      exact this l hn hmem
    have he := h5 hi
    unfold Lib.splitK
    rw [index_one, if_neg (by simpa using hi)]
    have e1 : (Lib.indexByte l 10).toNat + 1 = e := by omega
    have e2 : (Lib.indexByte l 10).toNat + [(10 : UInt8)].length = e := by simpa using e1
    rw [e1, e2, cutEnd_cons _ (splitK_ne _ _ _ _), h3]
    congr 1
    refine ih _ ?_
    have hc : l.count 10 = (l.take e).count 10 + (l.drop e).count 10 := by rw [← List.count_append, List.take_append_drop]
    have hl1 : (l.take e).count 10 = 1 := by
      have hln : isLn (l.take e) = true := lns_line l _ (by rw [h3]; simp)
      have hlast : (l.take e).getLast? = some 10 := by
        have hg : l[e - 1]? = some 10 := by
          have : ∀ (l : List UInt8) (i : Nat), Lib.indexByte l 10 = (i : Int) → l[i]? = some 10 := by
            intro l
            induction l with
            | nil => intro i h; simp [Lib.indexByte] at h
            | cons b l ihl =>
              intro i hb
              unfold Lib.indexByte at hb
              by_cases e : b = 10
              · subst e
                rw [if_pos (by decide)] at hb
                have : i = 0 := by omega
                subst this
                rfl
              · rw [if_neg (by simpa using e)] at hb
                by_cases hk : Lib.indexByte l 10 = -1
                · rw [if_pos (by simpa using hk)] at hb; omega
                · rw [if_neg (by simpa using hk)] at hb
                  have hge := Lib.indexByte_ge l 10
                  cases i with
                  | zero => omega
                  | succ i => simpa using ihl i (by omega)
          exact this l (e - 1) (by omega)
        rw [List.getLast?_take]
        rw [if_neg (by omega), hg]
        rfl
      have hsplit : l.take e = (l.take e).dropLast ++ [10] := by
        have hne2 : l.take e ≠ [] := by
          intro hn
          rw [hn] at hlast
          cases hlast
        have := List.dropLast_concat_getLast hne2
        rw [List.getLast?_eq_some_getLast hne2] at hlast
        rw [Option.some.inj hlast] at this
        exact this.symm
      rw [hsplit, List.count_append]
      unfold isLn at hln
      rw [Bool.and_eq_true] at hln
      have hz : (l.take e).dropLast.count 10 = 0 := List.count_eq_zero.2 (fun hm => by
        have := List.all_eq_true.1 hln.2 10 hm
        simp at this)
      rw [hz]
      rfl
    omega
end Go.Proofs.YtfhkmmicdbblnaaDoor

/-
  The pieces of a merge of three lists: plain facts, no program in sight.
-/
namespace Go.Proofs.YtfhkmmicdbblnaaDoor
set_option linter.unusedSimpArgs false
set_option linter.unusedVariables false

/-- a piece of a merge -/
structure Pc (α : Type) where
  kind : Int
  o : List α
  a : List α
  b : List α
/-- the lines that stand in all three lists -/
def stab : List (Option Nat) → List (Option Nat) → Nat → List (Nat × Nat × Nat)
  | some x :: l, some y :: r, i => (i, x, y) :: stab l r (i + 1)
  | some _ :: l, none :: r, i => stab l r (i + 1)
  | none :: l, _ :: r, i => stab l r (i + 1)
  | _, _, _ => []
theorem stab_swap : ∀ (l r : List (Option Nat)) (i : Nat), stab r l i = (stab l r i).map (fun s => (s.1, s.2.2, s.2.1))
  | [], r, i => by
    cases r with
    | nil => rfl
    | cons y r => cases y <;> rfl
  | x :: l, [], i => by cases x <;> rfl
  | some x :: l, some y :: r, i => by
    show (i, y, x) :: stab r l (i + 1) = _
    rw [stab_swap l r (i + 1)]
    rfl
  | some x :: l, none :: r, i => stab_swap l r (i + 1)
  | none :: l, some y :: r, i => stab_swap l r (i + 1)
  | none :: l, none :: r, i => stab_swap l r (i + 1)

section
variable {α : Type}
/-- a part of a list -/
def seg (A : List α) (i j : Nat) : List α := (A.drop i).take (j - i)
theorem seg_nil (A : List α) (i : Nat) : seg A i i = [] := by unfold seg; rw [Nat.sub_self]; rfl
theorem seg_app (A : List α) {i j : Nat} (h : i ≤ j) : A.take i ++ seg A i j = A.take j := by
  unfold seg
  have e : j = i + (j - i) := by omega
  conv => rhs; rw [e, List.take_add]
theorem seg_one {A : List α} {i : Nat} {x : α} (h : A[i]? = some x) : A.take i ++ [x] = A.take (i + 1) := by
  rw [List.take_add_one, h]
  rfl
/-- the last piece grown by a line -/
def joinP : List (Pc α) → α → α → α → List (Pc α)
  | [], _, _, _ => []
  | [p], x, y, z => [⟨p.kind, p.o ++ [x], p.a ++ [y], p.b ++ [z]⟩]
  | p :: q :: l, x, y, z => p :: joinP (q :: l) x y z
theorem joinP_app : ∀ (l : List (Pc α)) (p : Pc α) (x y z : α), joinP (l ++ [p]) x y z = l ++ [⟨p.kind, p.o ++ [x], p.a ++ [y], p.b ++ [z]⟩]
  | [], p, x, y, z => rfl
  | [q], p, x, y, z => rfl
  | q :: r :: l, p, x, y, z => by
    show q :: joinP ((r :: l) ++ [p]) x y z = _
    rw [joinP_app (r :: l) p x y z]
    rfl
def sameP (x y z : α) : Pc α := ⟨1, [x], [y], [z]⟩
theorem drop_get {A : List α} {i : Nat} {x : α} {r : List α} (h : x :: r = A.drop i) : A[i]? = some x ∧ r = A.drop (i + 1) := by
  constructor
  · have : (A.drop i)[0]? = some x := by rw [← h]; rfl
    simpa using this
  · have : (A.drop i).drop 1 = r := by rw [← h]; rfl
    rw [← this, List.drop_drop]
theorem seg_split (A : List α) {i j : Nat} {x : α} (h : A[i]? = some x) (hj : i < j) : seg A i j = x :: seg A (i + 1) j := by
  obtain ⟨hl, he⟩ := List.getElem?_eq_some_iff.1 h
  unfold seg
  rw [List.drop_eq_getElem_cons hl, he, show j - i = (j - (i + 1)) + 1 by omega, List.take_succ_cons]
end
section
variable {α : Type} [DecidableEq α]
def kindOf (o a b : List α) : Int := if b = o then 2 else if a = o then 3 else if a = b then 4 else 5
def diffP (O A B : List α) (f t : Nat × Nat × Nat) : List (Pc α) := if f = t then [] else [⟨kindOf (seg O f.1 t.1) (seg A f.2.1 t.2.1) (seg B f.2.2 t.2.2), seg O f.1 t.1, seg A f.2.1 t.2.1, seg B f.2.2 t.2.2⟩]
/-- the pieces, from what has been done on -/
def mrgF [Inhabited α] (O A B : List α) : List (Nat × Nat × Nat) → Nat × Nat × Nat → List (Pc α) → List (Pc α)
  | [], f, ps => ps ++ diffP O A B f (O.length, A.length, B.length)
  | s :: l, f, ps => mrgF O A B l (s.1 + 1, s.2.1 + 1, s.2.2 + 1)
    (if 0 < s.1 ∧ f = s then joinP ps (O[s.1]?.getD default) (A[s.2.1]?.getD default) (B[s.2.2]?.getD default) else ps ++ diffP O A B f s ++ [sameP (O[s.1]?.getD default) (A[s.2.1]?.getD default) (B[s.2.2]?.getD default)])
def mrg [Inhabited α] (O A B : List α) : List (Pc α) := mrgF O A B (stab (comm O A 0) (comm O B 0) 0) (0, 0, 0) []

/-- stable lines, from a place on: nothing that is the same in all three lists stands ahead of the next one -/
def Stb (O A B : List α) : Nat × Nat × Nat → List (Nat × Nat × Nat) → Prop
  | f, [] => f.1 ≤ O.length ∧ f.2.1 ≤ A.length ∧ f.2.2 ≤ B.length ∧ (f ≠ (O.length, A.length, B.length) → ¬ (O.drop f.1 = A.drop f.2.1 ∧ O.drop f.1 = B.drop f.2.2))
  | f, s :: l => f.1 ≤ s.1 ∧ f.2.1 ≤ s.2.1 ∧ f.2.2 ≤ s.2.2 ∧ (∃ u, O[s.1]? = some u ∧ A[s.2.1]? = some u ∧ B[s.2.2]? = some u) ∧
    (f ≠ s → ¬ (seg O f.1 s.1 = seg A f.2.1 s.2.1 ∧ seg O f.1 s.1 = seg B f.2.2 s.2.2)) ∧ Stb O A B (s.1 + 1, s.2.1 + 1, s.2.2 + 1) l

theorem head_pair {x : α} {a b : List α} {j : Nat} : comm (x :: a) (x :: b) j = some j :: comm a b (j + 1) := by
  conv => lhs; unfold comm
  have e : idx x (x :: b) = some 0 := by unfold idx; rw [if_pos rfl]
  rw [e]
  simp only
  rw [if_pos (by rw [lcs_cons, if_pos rfl]; rfl)]
  rfl
/-- the walk over the base: f is what has been told, i the line that is next, j and k what has been paired -/
theorem stab_stb (O A B : List α) : ∀ (o : List α) (i j k : Nat) (f : Nat × Nat × Nat), o = O.drop i → i ≤ O.length → j ≤ A.length → k ≤ B.length →
    f.1 ≤ i ∧ f.2.1 ≤ j ∧ f.2.2 ≤ k → (f ≠ (i, j, k) → ¬ (∃ n, O[f.1]? = some n ∧ A[f.2.1]? = some n ∧ B[f.2.2]? = some n)) →
    Stb O A B f (stab (comm o (A.drop j) j) (comm o (B.drop k) k) i) := by
  intro o
  induction o with
  | nil =>
    intro i j k f ho hi hj hk hf hn
    have hOl : i = O.length := by
      have : (O.drop i).length = 0 := by rw [← ho]; rfl
      rw [List.length_drop] at this
      omega
    subst hOl
    refine ⟨hf.1, by omega, by omega, fun hne ⟨e1, e2⟩ => ?_⟩
    by_cases hfi : f = (O.length, j, k)
    · rw [hfi] at e1 e2 hne
      simp only [List.drop_length] at e1 e2
      have h1 : A.length ≤ j := List.drop_eq_nil_iff.1 e1.symm
      have h2 : B.length ≤ k := List.drop_eq_nil_iff.1 e2.symm
      exact hne (by rw [show j = A.length by omega, show k = B.length by omega])
    · refine hn hfi ?_
      cases ho2 : O.drop f.1 with
      | nil =>
        have h0 : O.length ≤ f.1 := List.drop_eq_nil_iff.1 ho2
        rw [ho2] at e1 e2
        have h1 : A.length ≤ f.2.1 := List.drop_eq_nil_iff.1 e1.symm
        have h2 : B.length ≤ f.2.2 := List.drop_eq_nil_iff.1 e2.symm
        exact absurd (Prod.ext (by simp; omega) (Prod.ext (by simp; omega) (by simp; omega))) hfi
      | cons n r =>
        rw [ho2] at e1 e2
        exact ⟨n, (drop_get ho2.symm).1, (drop_get e1).1, (drop_get e2).1⟩
  | cons x o ih =>
    intro i j k f ho hi hj hk hf hn
    obtain ⟨hx, ho'⟩ := drop_get ho
    have hi' : i + 1 ≤ O.length := (List.getElem?_eq_some_iff.1 hx).1
    rcases comm_cons x o (A.drop j) j with ⟨m, h1, _, h3⟩ | ⟨h1, _, h3⟩
    · obtain ⟨g1, _⟩ := idx_some h1
      rw [List.getElem?_drop] at g1
      have hm : j + m + 1 ≤ A.length := (List.getElem?_eq_some_iff.1 g1).1
      rw [List.drop_drop, show j + (m + 1) = j + m + 1 by omega] at h3
      rcases comm_cons x o (B.drop k) k with ⟨m', h1', _, h3'⟩ | ⟨h1', _, h3'⟩
      · obtain ⟨g1', _⟩ := idx_some h1'
        rw [List.getElem?_drop] at g1'
        have hm' : k + m' + 1 ≤ B.length := (List.getElem?_eq_some_iff.1 g1').1
        rw [List.drop_drop, show k + (m' + 1) = k + m' + 1 by omega] at h3'
        rw [h3, h3']
        show Stb O A B f ((i, j + m, k + m') :: stab (comm o (A.drop (j + m + 1)) (j + m + 1)) (comm o (B.drop (k + m' + 1)) (k + m' + 1)) (i + 1))
        refine ⟨hf.1, by simp only; omega, by simp only; omega, ⟨x, hx, g1, g1'⟩, fun hne ⟨e1, e2⟩ => ?_, ih (i + 1) (j + m + 1) (k + m' + 1) _ ho' hi' hm hm' ⟨Nat.le_refl _, Nat.le_refl _, Nat.le_refl _⟩ (fun hh => absurd rfl hh)⟩
        simp only at e1 e2
        by_cases hfi : f = (i, j, k)
        · subst hfi
          simp only at e1 e2 hne
          rw [seg_nil] at e1 e2
          have l1 := congrArg List.length e1
          have l2 := congrArg List.length e2
          unfold seg at l1 l2
          rw [List.length_take, List.length_drop] at l1 l2
          simp only [List.length_nil] at l1 l2
          exact hne (by rw [show m = 0 by omega, show m' = 0 by omega]; rfl)
        · refine hn hfi ?_
          have l1 := congrArg List.length e1
          have l2 := congrArg List.length e2
          unfold seg at l1 l2
          rw [List.length_take, List.length_drop, List.length_take, List.length_drop] at l1 l2
          by_cases hlt : f.1 < i
          · obtain ⟨n, hnn⟩ : ∃ n, O[f.1]? = some n := ⟨_, List.getElem?_eq_getElem (by omega)⟩
            obtain ⟨na, hna⟩ : ∃ n, A[f.2.1]? = some n := ⟨_, List.getElem?_eq_getElem (by omega)⟩
            obtain ⟨nb, hnb⟩ : ∃ n, B[f.2.2]? = some n := ⟨_, List.getElem?_eq_getElem (by omega)⟩
            rw [seg_split O hnn hlt, seg_split A hna (by omega)] at e1
            rw [seg_split O hnn hlt, seg_split B hnb (by omega)] at e2
            have q1 := (List.cons.inj e1).1
            have q2 := (List.cons.inj e2).1
            exact ⟨n, hnn, by rw [hna, ← q1], by rw [hnb, ← q2]⟩
          · exfalso
            have a1 : f.1 = i := by omega
            have a2 : f.2.1 = j := by omega
            have a3 : f.2.2 = k := by omega
            exact hfi (Prod.ext a1 (Prod.ext a2 a3))
      · rw [h3, h3']
        show Stb O A B f (stab (comm o (A.drop (j + m + 1)) (j + m + 1)) (comm o (B.drop k) k) (i + 1))
        refine ih (i + 1) (j + m + 1) k f ho' hi' hm hk ⟨by omega, by omega, hf.2.2⟩ (fun hne ⟨n, n1, n2, n3⟩ => ?_)
        by_cases hfi : f = (i, j, k)
        · subst hfi
          simp only at n1 n2 n3
          rw [hx] at n1
          have : x = n := Option.some.inj n1
          subst this
          have hb : ∃ r, B.drop k = x :: r := ⟨_, by rw [List.drop_eq_getElem_cons (List.getElem?_eq_some_iff.1 n3).1, (List.getElem?_eq_some_iff.1 n3).2]⟩
          obtain ⟨r, hr⟩ := hb
          refine h1' 0 (by rw [hr]; rfl) ?_
          rw [hr, lcs_cons, if_pos rfl]
          rfl
        · exact hn hfi ⟨n, n1, n2, n3⟩
    · rw [h3]
      have hl : ∀ r, stab (none :: comm o (A.drop j) j) r i = match r with
          | [] => []
          | _ :: r' => stab (comm o (A.drop j) j) r' (i + 1) := by
        intro r
        cases r with
        | nil => rfl
        | cons y r' => cases y <;> rfl
      have hnoA : ∀ n, O[i]? = some n → A[j]? ≠ some n := by
        intro n n1 n2
        rw [hx] at n1
        have : x = n := Option.some.inj n1
        subst this
        have hb : ∃ r, A.drop j = x :: r := ⟨_, by rw [List.drop_eq_getElem_cons (List.getElem?_eq_some_iff.1 n2).1, (List.getElem?_eq_some_iff.1 n2).2]⟩
        obtain ⟨r, hr⟩ := hb
        refine h1 0 (by rw [hr]; rfl) ?_
        rw [hr, lcs_cons, if_pos rfl]
        rfl
      rw [hl]
      rcases comm_cons x o (B.drop k) k with ⟨m', h1', _, h3'⟩ | ⟨h1', _, h3'⟩
      · obtain ⟨g1', _⟩ := idx_some h1'
        rw [List.getElem?_drop] at g1'
        have hm' : k + m' + 1 ≤ B.length := (List.getElem?_eq_some_iff.1 g1').1
        rw [List.drop_drop, show k + (m' + 1) = k + m' + 1 by omega] at h3'
        rw [h3']
        refine ih (i + 1) j (k + m' + 1) f ho' hi' hj hm' ⟨by omega, hf.2.1, by omega⟩ (fun hne ⟨n, n1, n2, n3⟩ => ?_)
        by_cases hfi : f = (i, j, k)
        · subst hfi
          exact hnoA n n1 n2
        · exact hn hfi ⟨n, n1, n2, n3⟩
      · rw [h3']
        refine ih (i + 1) j k f ho' hi' hj hk ⟨by omega, hf.2.1, hf.2.2⟩ (fun hne ⟨n, n1, n2, n3⟩ => ?_)
        by_cases hfi : f = (i, j, k)
        · subst hfi
          exact hnoA n n1 n2
        · exact hn hfi ⟨n, n1, n2, n3⟩
theorem mrg_stb (O A B : List α) : Stb O A B (0, 0, 0) (stab (comm O A 0) (comm O B 0) 0) :=
  stab_stb O A B O 0 0 0 (0, 0, 0) rfl (Nat.zero_le _) (Nat.zero_le _) (Nat.zero_le _) ⟨Nat.le_refl _, Nat.le_refl _, Nat.le_refl _⟩ (fun h => absurd rfl h)
end
end Go.Proofs.YtfhkmmicdbblnaaDoor

/-
  What the pieces of a merge are: the three lists, part by part; their kinds; the sides exchanged; merging with an unchanged side: plain facts.
-/
namespace Go.Proofs.YtfhkmmicdbblnaaDoor
set_option linter.unusedSimpArgs false
set_option linter.unusedVariables false

section
variable {α : Type}
/-- no two pieces that are not stable stand side by side -/
def apartP : List (Pc α) → Prop
  | [] => True
  | [_] => True
  | p :: q :: l => (p.kind = 1 ∨ q.kind = 1) ∧ apartP (q :: l)
theorem apart_snoc : ∀ {l : List (Pc α)} {p : Pc α}, apartP l → (∀ q ∈ l.getLast?, q.kind = 1 ∨ p.kind = 1) → apartP (l ++ [p])
  | [], p, _, _ => trivial
  | [q], p, _, h => ⟨h q (by simp), trivial⟩
  | q :: r :: l, p, h, hl => ⟨h.1, apart_snoc (l := r :: l) h.2 (fun x hx => hl x (by simpa using hx))⟩
theorem seg_len {A : List α} {i j : Nat} (h : j ≤ A.length) : (seg A i j).length = j - i := by
  unfold seg
  rw [List.length_take, List.length_drop]
  omega
theorem flat_join : ∀ (l : List (Pc α)) (x y z : α), l ≠ [] → (joinP l x y z).flatMap (·.o) = l.flatMap (·.o) ++ [x] ∧ (joinP l x y z).flatMap (·.a) = l.flatMap (·.a) ++ [y] ∧ (joinP l x y z).flatMap (·.b) = l.flatMap (·.b) ++ [z]
  | [], x, y, z, h => absurd rfl h
  | [p], x, y, z, _ => ⟨by simp [joinP], by simp [joinP], by simp [joinP]⟩
  | p :: q :: l, x, y, z, _ => by
    obtain ⟨h1, h2, h3⟩ := flat_join (q :: l) x y z (by simp)
    refine ⟨?_, ?_, ?_⟩
    · show (p :: joinP (q :: l) x y z).flatMap (·.o) = _
      rw [List.flatMap_cons, h1]
      simp [List.flatMap_cons]
    · show (p :: joinP (q :: l) x y z).flatMap (·.a) = _
      rw [List.flatMap_cons, h2]
      simp [List.flatMap_cons]
    · show (p :: joinP (q :: l) x y z).flatMap (·.b) = _
      rw [List.flatMap_cons, h3]
      simp [List.flatMap_cons]
/-- the sides exchanged -/
def turnK (k : Int) : Int := if k = 2 then 3 else if k = 3 then 2 else k
def swapP (p : Pc α) : Pc α := ⟨turnK p.kind, p.o, p.b, p.a⟩
theorem joinP_swap : ∀ (l : List (Pc α)) (x y z : α), joinP (l.map swapP) x z y = (joinP l x y z).map swapP
  | [], x, y, z => rfl
  | [p], x, y, z => rfl
  | p :: q :: l, x, y, z => by
    show swapP p :: joinP ((q :: l).map swapP) x z y = _
    rw [joinP_swap (q :: l) x y z]
    rfl
end
section
variable {α : Type} [DecidableEq α]
/-- a piece is what its kind says -/
def pcOk (p : Pc α) : Prop := (p.kind = 1 ∧ p.o = p.a ∧ p.o = p.b ∧ p.o ≠ []) ∨ (p.kind = kindOf p.o p.a p.b ∧ ¬ (p.o = p.a ∧ p.o = p.b))
theorem kind_ne1 (o a b : List α) : kindOf o a b ≠ 1 := by
  unfold kindOf
  split
  · decide
  · split
    · decide
    · split <;> decide
/-- the state of the pieces: f is what has been told -/
def MI (O A B : List α) (f : Nat × Nat × Nat) (ps : List (Pc α)) : Prop :=
  (ps.flatMap (·.o) = O.take f.1 ∧ ps.flatMap (·.a) = A.take f.2.1 ∧ ps.flatMap (·.b) = B.take f.2.2) ∧ (∀ p ∈ ps, pcOk p) ∧ apartP ps ∧ (∀ p ∈ ps.getLast?, p.kind = 1) ∧ (0 < f.1 → ps ≠ [])
theorem diffP_o (O A B : List α) (f t : Nat × Nat × Nat) : (diffP O A B f t).flatMap (·.o) = seg O f.1 t.1 ∧ (diffP O A B f t).flatMap (·.a) = seg A f.2.1 t.2.1 ∧ (diffP O A B f t).flatMap (·.b) = seg B f.2.2 t.2.2 := by
  unfold diffP
  by_cases h : f = t
  · rw [if_pos h]
    subst h
    exact ⟨(seg_nil _ _).symm, (seg_nil _ _).symm, (seg_nil _ _).symm⟩
  · rw [if_neg h]
    exact ⟨by simp, by simp, by simp⟩
theorem MI.differ {O A B : List α} {f t : Nat × Nat × Nat} {ps : List (Pc α)} (h : MI O A B f ps) (h1 : f.1 ≤ t.1) (h2 : f.2.1 ≤ t.2.1) (h3 : f.2.2 ≤ t.2.2)
    (hn : f ≠ t → ¬ (seg O f.1 t.1 = seg A f.2.1 t.2.1 ∧ seg O f.1 t.1 = seg B f.2.2 t.2.2)) :
    ((ps ++ diffP O A B f t).flatMap (·.o) = O.take t.1 ∧ (ps ++ diffP O A B f t).flatMap (·.a) = A.take t.2.1 ∧ (ps ++ diffP O A B f t).flatMap (·.b) = B.take t.2.2) ∧ (∀ p ∈ ps ++ diffP O A B f t, pcOk p) ∧ apartP (ps ++ diffP O A B f t) := by
  obtain ⟨⟨i1, i2, i3⟩, i4, i5, i6, _⟩ := h
  obtain ⟨d1, d2, d3⟩ := diffP_o O A B f t
  refine ⟨⟨?_, ?_, ?_⟩, ?_, ?_⟩
  · rw [List.flatMap_append, i1, d1, seg_app O h1]
  · rw [List.flatMap_append, i2, d2, seg_app A h2]
  · rw [List.flatMap_append, i3, d3, seg_app B h3]
  · intro p hp
    rcases List.mem_append.1 hp with hp | hp
    · exact i4 p hp
    · unfold diffP at hp
      by_cases hft : f = t
      · rw [if_pos hft] at hp; cases hp
      · rw [if_neg hft] at hp
        rw [List.mem_singleton.1 hp]
        exact .inr ⟨rfl, hn hft⟩
  · unfold diffP
    by_cases hft : f = t
    · rw [if_pos hft, List.append_nil]; exact i5
    · rw [if_neg hft]
      exact apart_snoc i5 (fun q hq => .inl (i6 q hq))
theorem MI.joined {O A B : List α} {f : Nat × Nat × Nat} {ps : List (Pc α)} {u : α} (h : MI O A B f ps) (hf : 0 < f.1) (h1 : O[f.1]? = some u) (h2 : A[f.2.1]? = some u) (h3 : B[f.2.2]? = some u) :
    MI O A B (f.1 + 1, f.2.1 + 1, f.2.2 + 1) (joinP ps u u u) := by
  obtain ⟨⟨i1, i2, i3⟩, i4, i5, i6, i7⟩ := h
  have hne := i7 hf
  obtain ⟨f1, f2, f3⟩ := flat_join ps u u u hne
  obtain ⟨init, last, rfl⟩ : ∃ init last, ps = init ++ [last] := ⟨ps.dropLast, ps.getLast hne, (List.dropLast_concat_getLast hne).symm⟩
  have hk : last.kind = 1 := i6 last (by simp)
  have hlo : last.o = last.a ∧ last.o = last.b ∧ last.o ≠ [] := by
    rcases i4 last (by simp) with h | h
    · exact h.2
    · rw [hk] at h
      exact absurd h.1.symm (kind_ne1 _ _ _)
  rw [joinP_app] at f1 f2 f3 ⊢
  refine ⟨⟨by rw [f1, i1, seg_one h1], by rw [f2, i2, seg_one h2], by rw [f3, i3, seg_one h3]⟩, ?_, ?_, ?_, fun _ => by simp⟩
  · intro p hp
    rcases List.mem_append.1 hp with hp | hp
    · exact i4 p (by simp [hp])
    · rw [List.mem_singleton.1 hp]
      exact .inl ⟨hk, by rw [hlo.1], by rw [hlo.2.1], by simp⟩
  · have hh : ∀ (l : List (Pc α)) (p q : Pc α), p.kind = q.kind → apartP (l ++ [p]) → apartP (l ++ [q]) := by
      intro l
      induction l with
      | nil => intro p q _ _; trivial
      | cons x l ih =>
        intro p q e h
        cases l with
        | nil => exact ⟨by rw [← e]; exact h.1, trivial⟩
        | cons y l => exact ⟨h.1, ih p q e h.2⟩
    exact hh init last _ rfl i5
  · intro p hp
    have : p = ⟨last.kind, last.o ++ [u], last.a ++ [u], last.b ++ [u]⟩ := by simpa using hp.symm
    rw [this]
    exact hk
theorem MI.fresh {O A B : List α} {f s : Nat × Nat × Nat} {ps : List (Pc α)} {u : α} (h : MI O A B f ps) (h1 : f.1 ≤ s.1) (h2 : f.2.1 ≤ s.2.1) (h3 : f.2.2 ≤ s.2.2)
    (hn : f ≠ s → ¬ (seg O f.1 s.1 = seg A f.2.1 s.2.1 ∧ seg O f.1 s.1 = seg B f.2.2 s.2.2)) (g1 : O[s.1]? = some u) (g2 : A[s.2.1]? = some u) (g3 : B[s.2.2]? = some u) :
    MI O A B (s.1 + 1, s.2.1 + 1, s.2.2 + 1) (ps ++ diffP O A B f s ++ [sameP u u u]) := by
  obtain ⟨⟨d1, d2, d3⟩, d4, d5⟩ := h.differ h1 h2 h3 hn
  refine ⟨⟨?_, ?_, ?_⟩, ?_, ?_, ?_, fun _ => by simp⟩
  · rw [List.flatMap_append, d1]; simp only [sameP, List.flatMap_cons, List.flatMap_nil, List.append_nil]; exact seg_one g1
  · rw [List.flatMap_append, d2]; simp only [sameP, List.flatMap_cons, List.flatMap_nil, List.append_nil]; exact seg_one g2
  · rw [List.flatMap_append, d3]; simp only [sameP, List.flatMap_cons, List.flatMap_nil, List.append_nil]; exact seg_one g3
  · intro p hp
    rcases List.mem_append.1 hp with hp | hp
    · exact d4 p hp
    · rw [List.mem_singleton.1 hp]
      exact .inl ⟨rfl, rfl, rfl, by simp [sameP]⟩
  · exact apart_snoc d5 (fun q _ => .inr rfl)
  · intro p hp
    have : p = sameP u u u := by simpa using hp.symm
    rw [this]
    rfl
theorem mrgF_ok [Inhabited α] (O A B : List α) : ∀ (l : List (Nat × Nat × Nat)) (f : Nat × Nat × Nat) (ps : List (Pc α)), Stb O A B f l → MI O A B f ps →
    ((mrgF O A B l f ps).flatMap (·.o) = O ∧ (mrgF O A B l f ps).flatMap (·.a) = A ∧ (mrgF O A B l f ps).flatMap (·.b) = B) ∧ (∀ p ∈ mrgF O A B l f ps, pcOk p) ∧ apartP (mrgF O A B l f ps)
  | [], f, ps, hs, hm => by
    obtain ⟨h1, h2, h3, h4⟩ := hs
    have := hm.differ (t := (O.length, A.length, B.length)) h1 h2 h3 (fun hne hh => h4 hne (by
      have e : ∀ (X : List α) (i : Nat), seg X i X.length = X.drop i := fun X i => by unfold seg; exact List.take_of_length_le (by rw [List.length_drop]; exact Nat.le_refl _)
      simp only [e] at hh
      exact hh))
    simp only [List.take_length] at this
    exact this
  | s :: l, f, ps, hs, hm => by
    obtain ⟨h1, h2, h3, ⟨u, g1, g2, g3⟩, h4, h5⟩ := hs
    unfold mrgF
    rw [g1, g2, g3]
    simp only [Option.getD_some]
    by_cases hj : 0 < s.1 ∧ f = s
    · rw [if_pos hj]
      obtain ⟨hp, rfl⟩ := hj
      exact mrgF_ok O A B l _ _ h5 (hm.joined hp g1 g2 g3)
    · rw [if_neg hj]
      exact mrgF_ok O A B l _ _ h5 (hm.fresh h1 h2 h3 h4 g1 g2 g3)
/-- the pieces are the three lists, part by part, each of its kind -/
theorem mrg_ok [Inhabited α] (O A B : List α) : ((mrg O A B).flatMap (·.o) = O ∧ (mrg O A B).flatMap (·.a) = A ∧ (mrg O A B).flatMap (·.b) = B) ∧ (∀ p ∈ mrg O A B, pcOk p) ∧ apartP (mrg O A B) :=
  mrgF_ok O A B _ _ [] (mrg_stb O A B) ⟨⟨rfl, rfl, rfl⟩, fun p hp => (by cases hp), trivial, fun p hp => (by cases hp), fun h => absurd h (Nat.lt_irrefl 0)⟩

theorem kind_swap {o a b : List α} (h : ¬ (o = a ∧ o = b)) : kindOf o b a = turnK (kindOf o a b) := by
  unfold kindOf turnK
  by_cases h1 : b = o
  · have h2 : ¬ a = o := fun h2 => h ⟨h2.symm, h1.symm⟩
    rw [if_neg h2, if_pos h1, if_pos h1]
    rfl
  · by_cases h2 : a = o
    · rw [if_pos h2, if_neg h1, if_pos h2]
      rfl
    · rw [if_neg h2, if_neg h1, if_neg h1, if_neg h2]
      by_cases h3 : a = b
      · rw [if_pos h3, if_pos h3.symm]
        rfl
      · rw [if_neg h3, if_neg (fun h => h3 h.symm)]
        rfl
theorem diffP_swap {O A B : List α} {f t : Nat × Nat × Nat} (hn : f ≠ t → ¬ (seg O f.1 t.1 = seg A f.2.1 t.2.1 ∧ seg O f.1 t.1 = seg B f.2.2 t.2.2)) :
    diffP O B A (f.1, f.2.2, f.2.1) (t.1, t.2.2, t.2.1) = (diffP O A B f t).map swapP := by
  unfold diffP
  by_cases h : f = t
  · subst h
    rw [if_pos rfl, if_pos rfl]
    rfl
  · have h2 : (f.1, f.2.2, f.2.1) ≠ (t.1, t.2.2, t.2.1) := fun e => h (by
      simp only [Prod.mk.injEq] at e
      exact Prod.ext e.1 (Prod.ext e.2.2 e.2.1))
    rw [if_neg h, if_neg h2]
    show [_] = [swapP _]
    unfold swapP
    rw [← kind_swap (hn h)]
theorem mrgF_swap [Inhabited α] (O A B : List α) : ∀ (l : List (Nat × Nat × Nat)) (f : Nat × Nat × Nat) (ps : List (Pc α)), Stb O A B f l →
    mrgF O B A (l.map (fun s => (s.1, s.2.2, s.2.1))) (f.1, f.2.2, f.2.1) (ps.map swapP) = (mrgF O A B l f ps).map swapP
  | [], f, ps, hs => by
    obtain ⟨h1, h2, h3, h4⟩ := hs
    show ps.map swapP ++ diffP O B A (f.1, f.2.2, f.2.1) (O.length, B.length, A.length) = (ps ++ diffP O A B f (O.length, A.length, B.length)).map swapP
    rw [List.map_append, ← diffP_swap (t := (O.length, A.length, B.length)) (fun hne hh => h4 hne (by
      have e : ∀ (X : List α) (i : Nat), seg X i X.length = X.drop i := fun X i => by unfold seg; exact List.take_of_length_le (by rw [List.length_drop]; exact Nat.le_refl _)
      simp only [e] at hh
      exact hh))]
  | s :: l, f, ps, hs => by
    obtain ⟨h1, h2, h3, ⟨u, g1, g2, g3⟩, h4, h5⟩ := hs
    rw [List.map_cons]
    unfold mrgF
    rw [g1, g2, g3]
    simp only [Option.getD_some]
    have hiff : (0 < s.1 ∧ (f.1, f.2.2, f.2.1) = (s.1, s.2.2, s.2.1)) ↔ (0 < s.1 ∧ f = s) := by
      constructor
      · rintro ⟨a, b⟩
        simp only [Prod.mk.injEq] at b
        exact ⟨a, Prod.ext b.1 (Prod.ext b.2.2 b.2.1)⟩
      · rintro ⟨a, rfl⟩
        exact ⟨a, rfl⟩
    by_cases hj : 0 < s.1 ∧ f = s
    · rw [if_pos hj, if_pos (hiff.2 hj), joinP_swap]
      exact mrgF_swap O A B l _ _ h5
    · rw [if_neg hj, if_neg (fun h => hj (hiff.1 h)), diffP_swap h4]
      have e : ps.map swapP ++ (diffP O A B f s).map swapP ++ [sameP u u u] = (ps ++ diffP O A B f s ++ [sameP u u u]).map swapP := by
        rw [List.map_append, List.map_append]
        rfl
      rw [e]
      exact mrgF_swap O A B l _ _ h5
theorem mrg_swap [Inhabited α] (O A B : List α) : mrg O B A = (mrg O A B).map swapP := by
  unfold mrg
  rw [stab_swap]
  exact mrgF_swap O A B _ (0, 0, 0) [] (mrg_stb O A B)

/-- the lines of pieces without conflict -/
def lineP (p : Pc α) : List α := if p.kind = 3 then p.b else p.a
def freeP (ps : List (Pc α)) : Bool := ps.all (fun p => decide (p.kind = 1 ∨ p.kind = 2 ∨ p.kind = 3 ∨ p.kind = 4))
end
end Go.Proofs.YtfhkmmicdbblnaaDoor

/-
  Lines told by numbers: the numbering is one to one, and so the partners are the lines' own: plain facts, no program in sight.
-/
namespace Go.Proofs.YtfhkmmicdbblnaaDoor
set_option linter.unusedSimpArgs false
set_option linter.unusedVariables false

section
variable {α : Type} [DecidableEq α] {β : Type} [DecidableEq β]

theorem idx_map {f : α → β} {x : α} : ∀ {b : List α}, (∀ y ∈ b, f y = f x → y = x) → idx (f x) (b.map f) = idx x b
  | [], _ => rfl
  | y :: b, h => by
    rw [List.map_cons]
    unfold idx
    by_cases e : y = x
    · rw [if_pos e, if_pos (by rw [e])]
    · rw [if_neg e, if_neg (fun e2 => e (h y List.mem_cons_self e2)), idx_map (fun z hz => h z (List.mem_cons_of_mem _ hz))]
theorem lcs_map {f : α → β} : ∀ {a b : List α}, (∀ x ∈ a, ∀ y ∈ b, f x = f y → x = y) → lcs (a.map f) (b.map f) = lcs a b := by
  suffices h : ∀ (n : Nat) (a b : List α), a.length + b.length ≤ n → (∀ x ∈ a, ∀ y ∈ b, f x = f y → x = y) → lcs (a.map f) (b.map f) = lcs a b from
    fun {a b} hf => h _ a b (Nat.le_refl _) hf
  intro n
  induction n with
  | zero =>
    intro a b h hf
    have ha : a = [] := List.eq_nil_of_length_eq_zero (by omega)
    subst ha
    rfl
  | succ n ih =>
    intro a b h hf
    cases a with
    | nil => rfl
    | cons x a =>
      cases b with
      | nil => rw [List.map_nil, lcs_nil2, lcs_nil2]
      | cons y b =>
        simp only [List.length_cons] at h
        have i1 := ih a b (by omega) (fun u hu v hv => hf u (List.mem_cons_of_mem _ hu) v (List.mem_cons_of_mem _ hv))
        have i2 := ih a (y :: b) (by simp only [List.length_cons]; omega) (fun u hu v hv => hf u (List.mem_cons_of_mem _ hu) v hv)
        have i3 := ih (x :: a) b (by simp only [List.length_cons]; omega) (fun u hu v hv => hf u hu v (List.mem_cons_of_mem _ hv))
        rw [List.map_cons] at i2 i3
        rw [List.map_cons, List.map_cons, lcs_cons, lcs_cons, i1, i2, i3]
        by_cases e : x = y
        · rw [if_pos e, if_pos (by rw [e])]
        · rw [if_neg e, if_neg (fun e2 => e (hf x List.mem_cons_self y List.mem_cons_self e2))]
theorem comm_map {f : α → β} : ∀ {a b : List α} {j : Nat}, (∀ x ∈ a, ∀ y ∈ b, f x = f y → x = y) → comm (a.map f) (b.map f) j = comm a b j
  | [], _, _, _ => rfl
  | x :: a, b, j, hf => by
    have hd : ∀ k, ∀ u ∈ a, ∀ v ∈ b.drop k, f u = f v → u = v := fun k u hu v hv => hf u (List.mem_cons_of_mem _ hu) v (List.mem_of_mem_drop hv)
    have hi : idx (f x) (b.map f) = idx x b := idx_map (fun y hy e => (hf x List.mem_cons_self y hy e.symm).symm)
    have hl : lcs (f x :: a.map f) (b.map f) = lcs (x :: a) b := lcs_map (a := x :: a) hf
    rw [List.map_cons]
    unfold comm
    rw [hi]
    cases idx x b with
    | none => 
      show none :: comm (a.map f) (b.map f) j = none :: comm a b j
      rw [comm_map (fun u hu v hv => hf u (List.mem_cons_of_mem _ hu) v hv)]
    | some k =>
      show (if 1 + lcs (a.map f) ((b.map f).drop (k + 1)) = lcs (f x :: a.map f) (b.map f) then some (j + k) :: comm (a.map f) ((b.map f).drop (k + 1)) (j + k + 1) else none :: comm (a.map f) (b.map f) j) = (if 1 + lcs a (b.drop (k + 1)) = lcs (x :: a) b then some (j + k) :: comm a (b.drop (k + 1)) (j + k + 1) else none :: comm a b j)
      rw [hl, ← List.map_drop, lcs_map (hd (k + 1)), comm_map (hd (k + 1)), comm_map (fun u hu v hv => hf u (List.mem_cons_of_mem _ hu) v hv)]

/-- the keys of a numbering, in the order of their coming; a line's number is its key's place -/
def key (ks : List α) (x : α) : List α := match idx x ks with | some _ => ks | none => ks ++ [x]
def num (ks : List α) (x : α) : Nat := (idx x ks).getD ks.length
theorem idx_app {x : α} : ∀ {ks : List α} {n : Nat} (r : List α), idx x ks = some n → idx x (ks ++ r) = some n
  | [], n, r, h => by cases h
  | y :: ks, n, r, h => by
    rw [List.cons_append]
    unfold idx at h ⊢
    by_cases e : y = x
    · rw [if_pos e] at h ⊢
      exact h
    · rw [if_neg e] at h ⊢
      obtain ⟨m, hm, rfl⟩ := Option.map_eq_some_iff.1 h
      rw [idx_app r hm]
      rfl
theorem idx_new {x : α} : ∀ {ks : List α}, idx x ks = none → idx x (ks ++ [x]) = some ks.length
  | [], _ => by simp [idx]
  | y :: ks, h => by
    rw [List.cons_append]
    unfold idx at h ⊢
    by_cases e : y = x
    · rw [if_pos e] at h; cases h
    · rw [if_neg e] at h ⊢
      rw [idx_new (by simpa using h)]
      rfl
theorem key_idx (ks : List α) (x : α) : idx x (key ks x) = some (num ks x) := by
  unfold key num
  cases h : idx x ks with
  | none => exact idx_new h
  | some n => exact h
theorem key_app (ks : List α) (x : α) : ∃ r, key ks x = ks ++ r := by
  unfold key
  cases h : idx x ks with
  | none => exact ⟨[x], rfl⟩
  | some n => exact ⟨[], by simp⟩
/-- the numbers of a list, and the keys behind it -/
def nums (ks : List α) : List α → List Nat
  | [] => []
  | x :: l => num ks x :: nums (key ks x) l
def keys (ks : List α) (l : List α) : List α := l.foldl key ks
theorem keys_app : ∀ (l ks : List α), ∃ r, keys ks l = ks ++ r
  | [], ks => ⟨[], by simp [keys]⟩
  | x :: l, ks => by
    obtain ⟨r, hr⟩ := key_app ks x
    obtain ⟨r2, hr2⟩ := keys_app l (key ks x)
    refine ⟨r ++ r2, ?_⟩
    show keys (key ks x) l = _
    rw [hr2, hr, List.append_assoc]
/-- every number is the place among the last keys, whatever keys follow -/
theorem nums_map : ∀ (l ks r : List α), nums ks l = l.map (num (keys ks l ++ r)) ∧ ∀ x ∈ l, (idx x (keys ks l ++ r)).isSome
  | [], ks, r => ⟨rfl, fun x hx => by cases hx⟩
  | x :: l, ks, r => by
    obtain ⟨i1, i2⟩ := nums_map l (key ks x) r
    obtain ⟨q, hq⟩ := keys_app l (key ks x)
    have hx : idx x (keys (key ks x) l ++ r) = some (num ks x) := by
      rw [hq, List.append_assoc]
      exact idx_app _ (key_idx ks x)
    refine ⟨?_, ?_⟩
    · show num ks x :: nums (key ks x) l = num (keys (key ks x) l ++ r) x :: l.map (num (keys (key ks x) l ++ r))
      rw [i1]
      congr 1
      unfold num at hx ⊢
      rw [hx]
      rfl
    · intro y hy
      show (idx y (keys (key ks x) l ++ r)).isSome
      rcases List.mem_cons.1 hy with rfl | hy
      · rw [hx]; rfl
      · exact i2 y hy
theorem num_inj {ks : List α} {x y : α} (hx : (idx x ks).isSome) (hy : (idx y ks).isSome) (h : num ks x = num ks y) : x = y := by
  obtain ⟨n, hn⟩ := Option.isSome_iff_exists.1 hx
  obtain ⟨m, hm⟩ := Option.isSome_iff_exists.1 hy
  have e : n = m := by
    unfold num at h
    rw [hn, hm] at h
    exact h
  subst e
  exact Option.some.inj ((idx_some hn).1.symm.trans (idx_some hm).1)
/-- two lists numbered one after the other, with others between and behind: the partners are the lines' own -/
theorem comm_nums (a b ks m : List α) (j : Nat) : comm (nums ks a) (nums (keys (keys ks a) m) b) j = comm a b j := by
  obtain ⟨q, hq⟩ := keys_app m (keys ks a)
  obtain ⟨p, hp⟩ := keys_app b (keys (keys ks a) m)
  obtain ⟨b1, b2⟩ := nums_map b (keys (keys ks a) m) []
  obtain ⟨a1, a2⟩ := nums_map a ks (q ++ p)
  rw [List.append_nil] at b1 b2
  have e : keys ks a ++ (q ++ p) = keys (keys (keys ks a) m) b := by rw [hp, hq, List.append_assoc]
  rw [e] at a1 a2
  rw [a1, b1]
  exact comm_map (fun x hx y hy h => num_inj (a2 x hx) (b2 y hy) h)
end
end Go.Proofs.YtfhkmmicdbblnaaDoor

/-
  The program's loop over partners makes the script: plain facts, no program in sight.
-/
namespace Go.Proofs.YtfhkmmicdbblnaaDoor
set_option linter.unusedSimpArgs false
set_option linter.unusedVariables false

section
variable {α : Type}
/-- the hunks that the loop over partners makes -/
def dlp (b : List α) : List (Option Nat) → Nat → Nat → Nat → List (Nat × Nat × List α)
  | [], _, _, _ => []
  | none :: l, i, f, t => dlp b l (i + 1) f t
  | some j :: l, i, f, t => (if f < i ∨ t < j then [(f, i, (b.drop t).take (j - t))] else []) ++ dlp b l (i + 1) (i + 1) (j + 1)
theorem dlp_scr (b : List α) : ∀ (l : List (Option Nat)) (i f t : Nat), dlp b l i f t = scr b (prs l i) f t
  | [], _, _, _ => rfl
  | none :: l, i, f, t => dlp_scr b l (i + 1) f t
  | some j :: l, i, f, t => by
    show _ ++ dlp b l (i + 1) (i + 1) (j + 1) = _ ++ scr b (prs l (i + 1)) (i + 1) (j + 1)
    rw [dlp_scr b l]
theorem prs_last : ∀ (l : List (Option Nat)) (i n : Nat), prs (l ++ [some n]) i = prs l i ++ [(i + l.length, n)]
  | [], i, n => rfl
  | none :: l, i, n => by
    show prs (l ++ [some n]) (i + 1) = prs l (i + 1) ++ _
    rw [prs_last l, List.length_cons, show i + 1 + l.length = i + (l.length + 1) from by omega]
  | some j :: l, i, n => by
    show (i, j) :: prs (l ++ [some n]) (i + 1) = (i, j) :: prs l (i + 1) ++ _
    rw [prs_last l, List.length_cons, show i + 1 + l.length = i + (l.length + 1) from by omega]
    rfl
theorem dlp_diff [DecidableEq α] (a b : List α) : dlp b (comm a b 0 ++ [some b.length]) 0 0 0 = diffL a b := by
  rw [dlp_scr, prs_last, comm_len, Nat.zero_add]
  rfl
/-- a partner as the program keeps it -/
def pI : Option Nat → Int
  | none => -1
  | some j => j
theorem pI_none {o : Option Nat} : pI o < 0 ↔ o = none := by
  cases o with
  | none => simp [pI]
  | some j => simp [pI]
/-- the hunks have places within the lists, and at most one more hunk than pairs -/
theorem scr_len (b : List α) : ∀ (l : List (Nat × Nat)) (f t : Nat), (scr b l f t).length ≤ l.length
  | [], _, _ => Nat.le_refl _
  | p :: l, f, t => by
    show (_ ++ scr b l (p.1 + 1) (p.2 + 1)).length ≤ _
    rw [List.length_append, List.length_cons]
    have := scr_len b l (p.1 + 1) (p.2 + 1)
    split
    · simp only [List.length_cons, List.length_nil]; omega
    · simp only [List.length_nil]; omega
theorem prs_len : ∀ (l : List (Option Nat)) (i : Nat), (prs l i).length ≤ l.length
  | [], _ => Nat.le_refl _
  | none :: l, i => by
    show (prs l (i + 1)).length ≤ _
    have := prs_len l (i + 1)
    rw [List.length_cons]; omega
  | some j :: l, i => by
    show ((i, j) :: prs l (i + 1)).length ≤ _
    have := prs_len l (i + 1)
    rw [List.length_cons, List.length_cons]; omega
theorem diff_len [DecidableEq α] (a b : List α) : (diffL a b).length ≤ a.length + 1 := by
  have h1 := scr_len b (pairs a b 0 0 ++ [(a.length, b.length)]) 0 0
  have h2 := prs_len (comm a b 0) 0
  rw [comm_len] at h2
  unfold diffL pairs at *
  rw [List.length_append] at h1
  simp only [List.length_cons, List.length_nil] at h1
  omega
end
end Go.Proofs.YtfhkmmicdbblnaaDoor

/-
  Partners told by place: the pairs as a table, and the lines of all three lists step by step: plain facts, no program in sight.
-/
namespace Go.Proofs.YtfhkmmicdbblnaaDoor
set_option linter.unusedSimpArgs false
set_option linter.unusedVariables false

theorem prs_mem : ∀ (l : List (Option Nat)) (i n y : Nat), (n, y) ∈ prs l i ↔ i ≤ n ∧ l[n - i]? = some (some y)
  | [], i, n, y => by
    constructor
    · intro h; cases h
    · rintro ⟨_, h⟩; simp at h
  | o :: l, i, n, y => by
    have ih := prs_mem l (i + 1) n y
    have hs : i + 1 ≤ n → (o :: l)[n - i]? = l[n - (i + 1)]? := by
      intro h
      rw [show n - i = (n - (i + 1)) + 1 from by omega, List.getElem?_cons_succ]
    cases o with
    | none =>
      show (n, y) ∈ prs l (i + 1) ↔ _
      rw [ih]
      constructor
      · rintro ⟨h1, h2⟩
        exact ⟨by omega, by rw [hs h1]; exact h2⟩
      · rintro ⟨h1, h2⟩
        rcases Nat.eq_or_lt_of_le h1 with rfl | h3
        · rw [Nat.sub_self] at h2
          simp at h2
        · exact ⟨h3, by rw [← hs h3]; exact h2⟩
    | some j =>
      show (n, y) ∈ (i, j) :: prs l (i + 1) ↔ _
      rw [List.mem_cons, ih]
      constructor
      · rintro (h | ⟨h1, h2⟩)
        · cases h
          exact ⟨Nat.le_refl _, by rw [Nat.sub_self]; rfl⟩
        · exact ⟨by omega, by rw [hs h1]; exact h2⟩
      · rintro ⟨h1, h2⟩
        rcases Nat.eq_or_lt_of_le h1 with rfl | h3
        · rw [Nat.sub_self] at h2
          left
          have : j = y := by simpa using h2
          rw [this]
        · exact .inr ⟨h3, by rw [← hs h3]; exact h2⟩
theorem stab_yes {l r : List (Option Nat)} {n x y : Nat} (h1 : l[n]? = some (some x)) (h2 : r[n]? = some (some y)) : stab (l.drop n) (r.drop n) n = (n, x, y) :: stab (l.drop (n + 1)) (r.drop (n + 1)) (n + 1) := by
  obtain ⟨a1, a2⟩ := List.getElem?_eq_some_iff.1 h1
  obtain ⟨b1, b2⟩ := List.getElem?_eq_some_iff.1 h2
  rw [List.drop_eq_getElem_cons a1, List.drop_eq_getElem_cons b1, a2, b2]
  rfl
theorem stab_no {l r : List (Option Nat)} {n : Nat} {o p : Option Nat} (h1 : l[n]? = some o) (h2 : r[n]? = some p) (h : o = none ∨ p = none) : stab (l.drop n) (r.drop n) n = stab (l.drop (n + 1)) (r.drop (n + 1)) (n + 1) := by
  obtain ⟨a1, a2⟩ := List.getElem?_eq_some_iff.1 h1
  obtain ⟨b1, b2⟩ := List.getElem?_eq_some_iff.1 h2
  rw [List.drop_eq_getElem_cons a1, List.drop_eq_getElem_cons b1, a2, b2]
  cases o with
  | none => cases p <;> rfl
  | some x =>
    cases p with
    | none => rfl
    | some y => simp at h
theorem stab_end {l r : List (Option Nat)} {n : Nat} (h : l.length ≤ n) : stab (l.drop n) (r.drop n) n = [] := by
  rw [List.drop_eq_nil_of_le h]
  unfold stab
  rfl
end Go.Proofs.YtfhkmmicdbblnaaDoor

/-
  Partners rise; the partners of the numbers are the lines' own; the loop over partners, step by step: plain facts, no program in sight.
-/
namespace Go.Proofs.YtfhkmmicdbblnaaDoor
set_option linter.unusedSimpArgs false
set_option linter.unusedVariables false

/-- partners rise, from t on, and none is beyond m -/
def Asc (m : Nat) : List (Option Nat) → Nat → Prop
  | [], _ => True
  | none :: l, t => Asc m l t
  | some j :: l, t => t ≤ j ∧ j ≤ m ∧ Asc m l (j + 1)
theorem comm_asc {α : Type} [DecidableEq α] (B : List α) : ∀ (a b : List α) (j : Nat), b = B.drop j → j ≤ B.length → Asc B.length (comm a b j ++ [some B.length]) j
  | [], b, j, _, hj => ⟨hj, Nat.le_refl _, trivial⟩
  | x :: a, b, j, hb, hj => by
    rcases comm_cons x a b j with ⟨k, h1, _, h3⟩ | ⟨_, _, h3⟩
    · obtain ⟨g1, _⟩ := idx_some h1
      have hk := (List.getElem?_eq_some_iff.1 g1).1
      rw [hb, List.length_drop] at hk
      rw [h3]
      refine ⟨by omega, by omega, ?_⟩
      exact comm_asc B a (b.drop (k + 1)) (j + k + 1) (by rw [hb, List.drop_drop]; congr 1) (by omega)
    · rw [h3]
      exact comm_asc B a b j hb hj
theorem keys_nil {α : Type} [DecidableEq α] (ks : List α) : keys ks [] = ks := rfl
theorem cast_inj {x y : Nat} (h : ((x : Nat) : Int) = ((y : Nat) : Int)) : x = y := Int.ofNat.inj h
def nI (ns : List Nat) : List Int := ns.map (fun n : Nat => (n : Int))
/-- what the loop over partners has made; f, t: the lines behind the last pair -/
def DI {α : Type} [DecidableEq α] (a b : List α) (P : List (Option Nat)) (k f t : Nat) (hs : List (Nat × Nat × List α)) : Prop :=
  diffL a b = hs ++ dlp b (P.drop k) k f t ∧ Asc b.length (P.drop k) t ∧ f ≤ k
theorem DI.start {α : Type} [DecidableEq α] (a b : List α) : DI a b (comm a b 0 ++ [some b.length]) 0 0 0 [] :=
  ⟨by rw [List.drop_zero, dlp_diff]; rfl, comm_asc b a b 0 rfl (Nat.zero_le _), Nat.le_refl _⟩
theorem DI.none_ {α : Type} [DecidableEq α] {a b : List α} {P : List (Option Nat)} {k f t : Nat} {hs : List (Nat × Nat × List α)} (h : DI a b P k f t hs) (hp : P[k]? = some none) : DI a b P (k + 1) f t hs := by
  obtain ⟨h1, h2, h3⟩ := h
  obtain ⟨hl, he⟩ := List.getElem?_eq_some_iff.1 hp
  rw [List.drop_eq_getElem_cons hl, he] at h1 h2
  exact ⟨h1, h2, by omega⟩
theorem DI.some_ {α : Type} [DecidableEq α] {a b : List α} {P : List (Option Nat)} {k f t : Nat} {hs : List (Nat × Nat × List α)} (h : DI a b P k f t hs) {j : Nat} (hp : P[k]? = some (some j)) :
    t ≤ j ∧ j ≤ b.length ∧ ((f < k ∨ t < j) → DI a b P (k + 1) (k + 1) (j + 1) (hs ++ [(f, k, (b.drop t).take (j - t))])) ∧ (¬ (f < k ∨ t < j) → DI a b P (k + 1) (k + 1) (j + 1) hs) := by
  obtain ⟨h1, h2, h3⟩ := h
  obtain ⟨hl, he⟩ := List.getElem?_eq_some_iff.1 hp
  rw [List.drop_eq_getElem_cons hl, he] at h1 h2
  obtain ⟨g1, g2, g3⟩ := h2
  refine ⟨g1, g2, fun hc => ⟨?_, g3, Nat.le_refl _⟩, fun hc => ⟨?_, g3, Nat.le_refl _⟩⟩
  · rw [h1]
    show hs ++ ((if f < k ∨ t < j then _ else _) ++ _) = _
    rw [if_pos hc, List.append_assoc]
  · rw [h1]
    show hs ++ ((if f < k ∨ t < j then _ else _) ++ _) = _
    rw [if_neg hc, List.nil_append]
theorem DI.done {α : Type} [DecidableEq α] {a b : List α} {P : List (Option Nat)} {k f t : Nat} {hs : List (Nat × Nat × List α)} (h : DI a b P k f t hs) (hk : P.length ≤ k) : hs = diffL a b := by
  rw [h.1, List.drop_eq_nil_of_le hk]
  exact (List.append_nil _).symm
end Go.Proofs.YtfhkmmicdbblnaaDoor

/-
  The reference's table of lengths and its first pair: plain facts, no program in sight.
-/
namespace Go.Proofs.YtfhkmmicdbblnaaDoor
set_option linter.unusedSimpArgs false
set_option linter.unusedVariables false

section
variable {α : Type} [DecidableEq α]

theorem lcs_edge (a b : List α) (x : Nat) : lcs (a.drop x) (b.drop b.length) = 0 := by rw [List.drop_length, lcs_nil2]
theorem lcs_edge2 (a b : List α) (y : Nat) : lcs (a.drop a.length) (b.drop y) = 0 := by rw [List.drop_length, lcs_nil]
theorem lcs_step {a b : List α} {x y : Nat} {u v : α} (hx : a[x]? = some u) (hy : b[y]? = some v) :
    lcs (a.drop x) (b.drop y) = max (max (lcs (a.drop (x + 1)) (b.drop y)) (lcs (a.drop x) (b.drop (y + 1)))) (if u = v then lcs (a.drop (x + 1)) (b.drop (y + 1)) + 1 else 0) := by
  obtain ⟨h1, e1⟩ := List.getElem?_eq_some_iff.1 hx
  obtain ⟨h2, e2⟩ := List.getElem?_eq_some_iff.1 hy
  rw [List.drop_eq_getElem_cons h1, List.drop_eq_getElem_cons h2, e1, e2]
  exact lcs_ref u v _ _
/-- a pair that begins as many pairs as there can be from (i, k) on -/
def FP (A B : List α) (i k x y : Nat) : Prop := ∃ u, A[x]? = some u ∧ B[y]? = some u ∧ lcs (A.drop (x + 1)) (B.drop (y + 1)) + 1 = lcs (A.drop i) (B.drop k)
/-- the first pair from (i, k) on -/
def FirstP (A B : List α) (i k x y : Nat) : Prop := i ≤ x ∧ k ≤ y ∧ x < A.length ∧ y < B.length ∧ FP A B i k x y ∧ ∀ x' y', i ≤ x' → k ≤ y' → (x' < x ∨ (x' = x ∧ y' < y)) → ¬ FP A B i k x' y'
theorem first_at (A B : List α) (i k : Nat) (h : 0 < lcs (A.drop i) (B.drop k)) :
    ∃ x y, FirstP A B i k x y ∧ pairs (A.drop i) (B.drop k) i k = (x, y) :: pairs (A.drop (x + 1)) (B.drop (y + 1)) (x + 1) (y + 1) := by
  obtain ⟨x, y, ⟨u, f1, f2, f3⟩, f4, f5⟩ := pairs_first (A.drop i) (B.drop k) i k h
  rw [List.drop_drop, List.drop_drop] at f3
  rw [List.getElem?_drop] at f1 f2
  refine ⟨i + x, k + y, ⟨by omega, by omega, (List.getElem?_eq_some_iff.1 f1).1, (List.getElem?_eq_some_iff.1 f2).1, ⟨u, f1, f2, f3⟩, ?_⟩, ?_⟩
  · rintro x' y' hx hy hlt ⟨v, e1, e2, e3⟩
    refine f4 (x' - i) (y' - k) (by omega) ⟨v, ?_, ?_, ?_⟩
    · rw [List.getElem?_drop, show i + (x' - i) = x' by omega]; exact e1
    · rw [List.getElem?_drop, show k + (y' - k) = y' by omega]; exact e2
    · rw [List.drop_drop, List.drop_drop, show i + (x' - i + 1) = x' + 1 by omega, show k + (y' - k + 1) = y' + 1 by omega]; exact e3
  · rw [List.drop_drop, List.drop_drop] at f5
    exact f5
/-- what the loop over pairs has made -/
def PG (A B : List α) (i k : Nat) (done : List (Nat × Nat)) : Prop := pairs A B 0 0 = done ++ pairs (A.drop i) (B.drop k) i k ∧ i ≤ A.length ∧ k ≤ B.length ∧ done.length ≤ i
theorem PG.start (A B : List α) : PG A B 0 0 [] := ⟨rfl, Nat.zero_le _, Nat.zero_le _, Nat.le_refl _⟩
theorem PG.step {A B : List α} {i k : Nat} {done : List (Nat × Nat)} (h : PG A B i k done) {x y : Nat} (hf : FirstP A B i k x y) (hp : pairs (A.drop i) (B.drop k) i k = (x, y) :: pairs (A.drop (x + 1)) (B.drop (y + 1)) (x + 1) (y + 1)) :
    PG A B (x + 1) (y + 1) (done ++ [(x, y)]) := by
  obtain ⟨h1, h2, h3, h4⟩ := h
  obtain ⟨f1, f2, f3, f4, _⟩ := hf
  refine ⟨?_, by omega, by omega, by rw [List.length_append, List.length_singleton]; omega⟩
  rw [h1, hp, List.append_assoc]
  rfl
theorem PG.done {A B : List α} {i k : Nat} {done : List (Nat × Nat)} (h : PG A B i k done) (hz : lcs (A.drop i) (B.drop k) = 0) : done = pairs A B 0 0 := by
  rw [h.1, pairs_zero _ _ _ _ hz, List.append_nil]
theorem lcs_le_both (a b : List α) : lcs a b ≤ b.length := by
  induction b with
  | nil => rw [lcs_nil2]; exact Nat.zero_le _
  | cons y b ih => have := (lcs_mono a b y y).2.2.2; rw [List.length_cons]; omega
end

section
variable {α : Type}
/-- pairs that rise, from (f, t) on -/
def Rise (n m : Nat) : List (Nat × Nat) → Nat → Nat → Prop
  | [], _, _ => True
  | p :: l, f, t => f ≤ p.1 ∧ t ≤ p.2 ∧ p.1 ≤ n ∧ p.2 ≤ m ∧ Rise n m l (p.1 + 1) (p.2 + 1)
theorem rise_prs {A B : List α} : ∀ (l : List (Nat × Nat)) (i j : Nat), Prs A B i j l → i ≤ A.length → j ≤ B.length → Rise A.length B.length (l ++ [(A.length, B.length)]) i j
  | [], i, j, _, hi, hj => ⟨hi, hj, Nat.le_refl _, Nat.le_refl _, trivial⟩
  | p :: l, i, j, h, hi, hj => by
    obtain ⟨h1, h2, ⟨u, h3, h4⟩, h5⟩ := h
    have l3 := (List.getElem?_eq_some_iff.1 h3).1
    have l4 := (List.getElem?_eq_some_iff.1 h4).1
    exact ⟨h1, h2, by omega, by omega, rise_prs l _ _ h5 (by omega) (by omega)⟩
/-- what the loop over pairs has made of hunks -/
def SG (n : Nat) (B : List α) (L : List (Nat × Nat)) (k f t : Nat) (done : List (Nat × Nat × List α)) : Prop :=
  scr B L 0 0 = done ++ scr B (L.drop k) f t ∧ Rise n B.length (L.drop k) f t ∧ done.length ≤ k
theorem SG.start {n : Nat} {B : List α} {L : List (Nat × Nat)} (h : Rise n B.length L 0 0) : SG n B L 0 0 0 [] := ⟨rfl, h, Nat.le_refl _⟩
theorem SG.step {n : Nat} {B : List α} {L : List (Nat × Nat)} {k f t : Nat} {done : List (Nat × Nat × List α)} (h : SG n B L k f t done) {x y : Nat} (hp : L[k]? = some (x, y)) :
    (f ≤ x ∧ t ≤ y ∧ x ≤ n ∧ y ≤ B.length) ∧ ((f < x ∨ t < y) → SG n B L (k + 1) (x + 1) (y + 1) (done ++ [(f, x, (B.drop t).take (y - t))])) ∧ (¬ (f < x ∨ t < y) → SG n B L (k + 1) (x + 1) (y + 1) done) := by
  obtain ⟨h1, h2, h3⟩ := h
  obtain ⟨hl, he⟩ := List.getElem?_eq_some_iff.1 hp
  rw [List.drop_eq_getElem_cons hl, he] at h1 h2
  obtain ⟨g1, g2, g3, g4, g5⟩ := h2
  refine ⟨⟨g1, g2, g3, g4⟩, fun hc => ⟨?_, g5, by rw [List.length_append, List.length_singleton]; omega⟩, fun hc => ⟨?_, g5, by omega⟩⟩
  · rw [h1]
    show done ++ ((if f < x ∨ t < y then _ else _) ++ _) = _
    rw [if_pos hc, List.append_assoc]
  · rw [h1]
    show done ++ ((if f < x ∨ t < y then _ else _) ++ _) = _
    rw [if_neg hc, List.nil_append]
theorem SG.done {n : Nat} {B : List α} {L : List (Nat × Nat)} {k f t : Nat} {done : List (Nat × Nat × List α)} (h : SG n B L k f t done) (hk : L.length ≤ k) : done = scr B L 0 0 := by
  rw [h.1, List.drop_eq_nil_of_le hk]
  exact (List.append_nil _).symm
theorem pairs_len_le [DecidableEq α] (A B : List α) : (pairs A B 0 0).length ≤ A.length := by
  rw [(comm_prs A B A B 0 0 rfl rfl).2]
  have : ∀ (a b : List α), lcs a b ≤ a.length := by
    intro a
    induction a with
    | nil => intro b; rw [lcs_nil]; exact Nat.zero_le _
    | cons x a ih => intro b; have := (lcs_mono a b x x).2.2.1; have := ih b; rw [List.length_cons]; omega
  exact this A B
theorem rise_pairs [DecidableEq α] (A B : List α) : Rise A.length B.length (pairs A B 0 0 ++ [(A.length, B.length)]) 0 0 := rise_prs _ _ _ (comm_prs A B A B 0 0 rfl rfl).1 (Nat.zero_le _) (Nat.zero_le _)
end
end Go.Proofs.YtfhkmmicdbblnaaDoor

/-
  What the loop of Merge keeps, plain.
-/
namespace Go.Proofs.YtfhkmmicdbblnaaDoor
set_option linter.unusedSimpArgs false
set_option linter.unusedVariables false

section
variable {α : Type}
theorem seg_single {A : List α} {i : Nat} {u : α} (h : A[i]? = some u) : seg A i (i + 1) = [u] := by
  rw [seg_split A h (Nat.lt_succ_self i), seg_nil]
theorem mem_len {f : Pc α → List α} {ps : List (Pc α)} {p : Pc α} (h : p ∈ ps) : (f p).length ≤ (ps.flatMap f).length := by
  induction ps with
  | nil => cases h
  | cons q ps ih =>
    rw [List.flatMap_cons, List.length_append]
    rcases List.mem_cons.1 h with rfl | h
    · omega
    · have := ih h; omega
end
section
variable {α : Type} [DecidableEq α] [Inhabited α]
def GI (O A B : List α) (k : Nat) (f : Nat × Nat × Nat) (ps : List (Pc α)) : Prop :=
  mrg O A B = mrgF O A B (stab ((comm O A 0).drop k) ((comm O B 0).drop k) k) f ps ∧ Stb O A B f (stab ((comm O A 0).drop k) ((comm O B 0).drop k) k) ∧ MI O A B f ps ∧ ps.length ≤ 2 * k
theorem GI.start (O A B : List α) : GI O A B 0 (0, 0, 0) [] :=
  ⟨rfl, mrg_stb O A B, ⟨⟨rfl, rfl, rfl⟩, fun p hp => (by cases hp), trivial, fun p hp => (by cases hp), fun h => absurd h (Nat.lt_irrefl 0)⟩, Nat.le_refl _⟩
theorem GI.skip {O A B : List α} {k : Nat} {f : Nat × Nat × Nat} {ps : List (Pc α)} (h : GI O A B k f ps) {o p : Option Nat} (h1 : (comm O A 0)[k]? = some o) (h2 : (comm O B 0)[k]? = some p) (hn : o = none ∨ p = none) : GI O A B (k + 1) f ps := by
  obtain ⟨a1, a2, a3, a4⟩ := h
  rw [stab_no h1 h2 hn] at a1 a2
  exact ⟨a1, a2, a3, by omega⟩
theorem GI.step {O A B : List α} {k : Nat} {f : Nat × Nat × Nat} {ps : List (Pc α)} (h : GI O A B k f ps) {x y : Nat} (h1 : (comm O A 0)[k]? = some (some x)) (h2 : (comm O B 0)[k]? = some (some y)) :
    (f.1 ≤ k ∧ f.2.1 ≤ x ∧ f.2.2 ≤ y ∧ k < O.length ∧ x < A.length ∧ y < B.length) ∧
    (¬ (0 < k ∧ f = (k, x, y)) → GI O A B (k + 1) (k + 1, x + 1, y + 1) (ps ++ diffP O A B f (k, x, y) ++ [⟨1, seg O k (k + 1), seg A x (x + 1), seg B y (y + 1)⟩])) ∧
    (0 < k ∧ f = (k, x, y) → ∃ qs p, ps = qs ++ [p] ∧ (p.o.length ≤ O.length ∧ p.a.length ≤ A.length ∧ p.b.length ≤ B.length) ∧ GI O A B (k + 1) (k + 1, x + 1, y + 1) (qs ++ [⟨p.kind, p.o ++ seg O k (k + 1), p.a ++ seg A x (x + 1), p.b ++ seg B y (y + 1)⟩])) := by
  obtain ⟨a1, a2, a3, a4⟩ := h
  rw [stab_yes h1 h2] at a1 a2
  obtain ⟨b1, b2, b3, ⟨u, g1, g2, g3⟩, b4, b5⟩ := a2
  simp only at b1 b2 b3 g1 g2 g3 b4 b5
  refine ⟨⟨b1, b2, b3, (List.getElem?_eq_some_iff.1 g1).1, (List.getElem?_eq_some_iff.1 g2).1, (List.getElem?_eq_some_iff.1 g3).1⟩, fun hj => ?_, fun hj => ?_⟩
  · rw [seg_single g1, seg_single g2, seg_single g3]
    unfold mrgF at a1
    simp only [g1, g2, g3, Option.getD_some] at a1
    rw [if_neg hj] at a1
    refine ⟨a1, b5, a3.fresh (s := (k, x, y)) b1 b2 b3 b4 g1 g2 g3, ?_⟩
    have : (diffP O A B f (k, x, y)).length ≤ 1 := by unfold diffP; split <;> simp
    simp only [List.length_append, List.length_singleton]
    omega
  · rw [seg_single g1, seg_single g2, seg_single g3]
    unfold mrgF at a1
    simp only [g1, g2, g3, Option.getD_some] at a1
    rw [if_pos hj] at a1
    obtain ⟨hk, rfl⟩ := hj
    have hne := a3.2.2.2.2 hk
    obtain ⟨qs, p, rfl⟩ : ∃ qs p, ps = qs ++ [p] := ⟨ps.dropLast, ps.getLast hne, (List.dropLast_concat_getLast hne).symm⟩
    have hm := a3.joined (u := u) hk g1 g2 g3
    rw [joinP_app] at a1 hm
    obtain ⟨c1, c2, c3⟩ := a3.1
    have l1 := mem_len (f := (·.o)) (p := p) (ps := qs ++ [p]) (by simp)
    have l2 := mem_len (f := (·.a)) (p := p) (ps := qs ++ [p]) (by simp)
    have l3 := mem_len (f := (·.b)) (p := p) (ps := qs ++ [p]) (by simp)
    rw [c1, List.length_take] at l1
    rw [c2, List.length_take] at l2
    rw [c3, List.length_take] at l3
    refine ⟨qs, p, rfl, ⟨by omega, by omega, by omega⟩, a1, b5, hm, ?_⟩
    simp only [List.length_append, List.length_singleton] at a4 ⊢
    omega
theorem GI.done {O A B : List α} {f : Nat × Nat × Nat} {ps : List (Pc α)} (h : GI O A B O.length f ps) : (f.1 ≤ O.length ∧ f.2.1 ≤ A.length ∧ f.2.2 ≤ B.length) ∧ mrg O A B = ps ++ diffP O A B f (O.length, A.length, B.length) := by
  obtain ⟨a1, a2, _, _⟩ := h
  rw [stab_end (by rw [comm_len]; exact Nat.le_refl _)] at a1 a2
  exact ⟨⟨a2.1, a2.2.1, a2.2.2.1⟩, a1⟩
theorem mrg_len (O A B : List α) : ∀ (l : List (Nat × Nat × Nat)) (f : Nat × Nat × Nat) (ps : List (Pc α)), (mrgF O A B l f ps).length ≤ ps.length + 2 * l.length + 1
  | [], f, ps => by
    unfold mrgF
    have : (diffP O A B f (O.length, A.length, B.length)).length ≤ 1 := by unfold diffP; split <;> simp
    rw [List.length_append]
    simp only [List.length_nil]
    omega
  | s :: l, f, ps => by
    unfold mrgF
    refine Nat.le_trans (mrg_len O A B l _ _) ?_
    rw [List.length_cons]
    split
    · have hj : ∀ (qs : List (Pc α)) (a b c : α), (joinP qs a b c).length ≤ qs.length := by
        intro qs
        induction qs with
        | nil => intro a b c; simp [joinP]
        | cons q qs ih =>
          intro a b c
          cases qs with
          | nil => simp [joinP]
          | cons r qs => show (joinP (r :: qs) a b c).length + 1 ≤ _; have := ih a b c; simp at this ⊢; omega
      have := hj ps (O[s.1]?.getD default) (A[s.2.1]?.getD default) (B[s.2.2]?.getD default)
      omega
    · have : (diffP O A B f s).length ≤ 1 := by unfold diffP; split <;> simp
      simp only [List.length_append, List.length_singleton]
      omega
end
end Go.Proofs.YtfhkmmicdbblnaaDoor

/-
  The reference's merge: the table of pairs, and its loop's step: plain facts, no program in sight.
-/
namespace Go.Proofs.YtfhkmmicdbblnaaDoor
open Go.Maps
set_option linter.unusedSimpArgs false
set_option linter.unusedVariables false

/-- what pairs say of a place: the last one wins -/
def ptab (ps : List (Nat × Nat)) (n : Nat) : Option Nat := (ps.reverse.find? (fun p => p.1 == n)).map (·.2)
theorem ptab_nil (n : Nat) : ptab [] n = none := rfl
theorem ptab_snoc (ps : List (Nat × Nat)) (x y n : Nat) : ptab (ps ++ [(x, y)]) n = if n = x then some y else ptab ps n := by
  unfold ptab
  rw [List.reverse_append, List.reverse_singleton, List.singleton_append, List.find?_cons]
  by_cases e : n = x
  · subst e; simp
  · have : (x == n) = false := by simpa using fun h => e h.symm
    simp [this, e]
theorem ptab_some {ps : List (Nat × Nat)} {n y : Nat} (h : ptab ps n = some y) : (n, y) ∈ ps := by
  unfold ptab at h
  obtain ⟨p, hp, rfl⟩ := Option.map_eq_some_iff.1 h
  have h1 := List.find?_some hp
  have h2 := List.mem_of_find?_eq_some hp
  have e : p.1 = n := by simpa using h1
  rw [← e]
  exact List.mem_reverse.1 h2
theorem ptab_none {ps : List (Nat × Nat)} {n : Nat} (h : ptab ps n = none) (y : Nat) : (n, y) ∉ ps := by
  unfold ptab at h
  have h1 := Option.map_eq_none_iff.1 h
  intro hm
  have := List.find?_eq_none.1 h1 (n, y) (List.mem_reverse.2 hm)
  simp at this
theorem ptab_comm {α : Type} [DecidableEq α] (a b : List α) {n : Nat} {o : Option Nat} (h : (comm a b 0)[n]? = some o) : ptab (pairs a b 0 0) n = o := by
  unfold pairs
  cases hp : ptab (prs (comm a b 0) 0) n with
  | some y =>
    have := (prs_mem _ 0 n y).1 (ptab_some hp)
    rw [Nat.sub_zero, h] at this
    exact (Option.some.inj this.2).symm
  | none =>
    cases o with
    | none => rfl
    | some y => exact absurd ((prs_mem _ 0 n y).2 ⟨Nat.zero_le _, by rw [Nat.sub_zero]; exact h⟩) (ptab_none hp y)

theorem prs_in {α : Type} {A B : List α} : ∀ {l : List (Nat × Nat)} {i j : Nat}, Prs A B i j l → ∀ x y, (x, y) ∈ l → x < A.length ∧ y < B.length
  | [], _, _, _, x, y, h => by cases h
  | p :: l, i, j, hp, x, y, h => by
    obtain ⟨_, _, ⟨u, h3, h4⟩, h5⟩ := hp
    rcases List.mem_cons.1 h with rfl | h
    · exact ⟨(List.getElem?_eq_some_iff.1 h3).1, (List.getElem?_eq_some_iff.1 h4).1⟩
    · exact prs_in h5 x y h
theorem pairs_lt {α : Type} [DecidableEq α] {a b : List α} {x y : Nat} (h : (x, y) ∈ pairs a b 0 0) : x < a.length ∧ y < b.length := prs_in (comm_prs a b a b 0 0 rfl rfl).1 x y h
/-- the map holds the table -/
def MP {H : Type} (D : DataW H) (f : Nat → Option Nat) : Prop :=
  Tidy D ∧ ∀ n : Nat, Maps.has D (.int .i64 (n : Int)) = (f n).isSome ∧ ∀ y, f n = some y → ∀ z, D.atKey (.int .i64 (n : Int)) z = .lit (.int .i64 (y : Int))
theorem MP.nil {H : Type} : MP (.map [] : DataW H) (ptab []) :=
  ⟨⟨[], rfl, List.Pairwise.nil⟩, fun n => ⟨rfl, fun y h => by cases h⟩⟩
theorem MP.put {H : Type} {D : DataW H} {ps : List (Nat × Nat)} (h : MP D (ptab ps)) (x y : Nat) : MP (D.put (.int .i64 (x : Int)) (.lit (.int .i64 (y : Int)))) (ptab (ps ++ [(x, y)])) := by
  have hm : IsMap D := by obtain ⟨es, rfl, _⟩ := h.1; exact ⟨es, rfl⟩
  refine ⟨h.1.put (k := .int .i64 (x : Int)) trivial _, fun n => ?_⟩
  rw [ptab_snoc]
  by_cases e : n = x
  · subst e
    rw [has_put_same (k := Lit.int _ _) hm trivial, if_pos rfl]
    refine ⟨rfl, fun y' hy z => ?_⟩
    cases hy
    rw [atKey_put_same (k := Lit.int _ _) hm trivial]
  · have hne : (Lit.int .i64 (n : Int) : Lit) ≠ .int .i64 (x : Int) := fun q => e (by injection q with _ q; exact Int.ofNat.inj q)
    rw [has_put_other hne, if_neg e]
    refine ⟨(h.2 n).1, fun y' hy z => ?_⟩
    rw [atKey_put_other hne]
    exact (h.2 n).2 y' hy z

section
variable {α : Type} [DecidableEq α] [Inhabited α]
/-- a stable line, as the reference tells it -/
theorem GI.stepR {O A B : List α} {k : Nat} {f : Nat × Nat × Nat} {ps : List (Pc α)} (h : GI O A B k f ps) {x y : Nat} (h1 : (comm O A 0)[k]? = some (some x)) (h2 : (comm O B 0)[k]? = some (some y)) :
    ∃ u, O[k]? = some u ∧ (f.1 ≤ k ∧ f.2.1 ≤ x ∧ f.2.2 ≤ y ∧ k < O.length ∧ x < A.length ∧ y < B.length) ∧
    (¬ (0 < k ∧ f = (k, x, y)) → GI O A B (k + 1) (k + 1, x + 1, y + 1) (ps ++ diffP O A B f (k, x, y) ++ [⟨1, [u], [u], [u]⟩])) ∧
    (0 < k ∧ f = (k, x, y) → ∃ qs p, ps = qs ++ [p] ∧ p.kind = 1 ∧ (p.o.length ≤ O.length ∧ p.a.length ≤ A.length ∧ p.b.length ≤ B.length) ∧ GI O A B (k + 1) (k + 1, x + 1, y + 1) (qs ++ [⟨1, p.o ++ [u], p.a ++ [u], p.b ++ [u]⟩])) := by
  obtain ⟨h3, h4, h5⟩ := h.step h1 h2
  obtain ⟨a1, a2, a3, a4⟩ := h
  rw [stab_yes h1 h2] at a2
  obtain ⟨b1, b2, b3, ⟨u, g1, g2, g3⟩, _⟩ := a2
  simp only at g1 g2 g3
  rw [seg_single g1, seg_single g2, seg_single g3] at h4 h5
  refine ⟨u, g1, h3, h4, fun hj => ?_⟩
  obtain ⟨qs, p, rfl, c1, c2⟩ := h5 hj
  have hk : p.kind = 1 := a3.2.2.2.1 p (by simp)
  rw [hk] at c2
  exact ⟨qs, p, rfl, hk, c1, c2⟩
end
end Go.Proofs.YtfhkmmicdbblnaaDoor
