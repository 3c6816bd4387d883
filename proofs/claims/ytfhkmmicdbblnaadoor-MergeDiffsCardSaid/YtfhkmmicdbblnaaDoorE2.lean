/-
  The reference's table of lengths and its first pair: plain facts, no program in sight.
-/
import Derived.Test.YtfhkmmicdbblnaaDoorD2
namespace Go.Proofs.YtfhkmmicdbblnaaDoor
set_option linter.unusedSimpArgs false
set_option linter.unusedVariables false

section
variable {α : Type} [DecidableEq α]

theorem lcs_edge (a b : List α) (x : Nat) : lcs (a.drop x) (b.drop b.length) = 0 := by rw [List.drop_length, lcs_nil2]
theorem lcs_edge2 (a b : List α) (y : Nat) : lcs (a.drop a.length) (b.drop y) = 0 := by rw [List.drop_length, lcs_nil]
theorem lcs_step {a b : List α} {x y : Nat} {u v : α} (hx : a[x]? = some u) (hy : b[y]? = some v) :
    lcs (a.drop x) (b.drop y) = max (max (lcs (a.drop (x + 1)) (b.drop y)) (lcs (a.drop x) (b.drop (y + 1)))) (if u = v then lcs (a.drop (x + 1)) (b.drop (y + 1)) + 1 else 0) := by
  obtain ⟨h1, e1⟩ := List.getElem?_eq_some_iff.1 hx
  obtain ⟨h2, e2⟩ := List.getElem?_eq_some_iff.1 hy
  rw [List.drop_eq_getElem_cons h1, List.drop_eq_getElem_cons h2, e1, e2]
  exact lcs_ref u v _ _
/-- a pair that begins as many pairs as there can be from (i, k) on -/
def FP (A B : List α) (i k x y : Nat) : Prop := ∃ u, A[x]? = some u ∧ B[y]? = some u ∧ lcs (A.drop (x + 1)) (B.drop (y + 1)) + 1 = lcs (A.drop i) (B.drop k)
/-- the first pair from (i, k) on -/
def FirstP (A B : List α) (i k x y : Nat) : Prop := i ≤ x ∧ k ≤ y ∧ x < A.length ∧ y < B.length ∧ FP A B i k x y ∧ ∀ x' y', i ≤ x' → k ≤ y' → (x' < x ∨ (x' = x ∧ y' < y)) → ¬ FP A B i k x' y'
theorem first_at (A B : List α) (i k : Nat) (h : 0 < lcs (A.drop i) (B.drop k)) :
    ∃ x y, FirstP A B i k x y ∧ pairs (A.drop i) (B.drop k) i k = (x, y) :: pairs (A.drop (x + 1)) (B.drop (y + 1)) (x + 1) (y + 1) := by
  obtain ⟨x, y, ⟨u, f1, f2, f3⟩, f4, f5⟩ := pairs_first (A.drop i) (B.drop k) i k h
  rw [List.drop_drop, List.drop_drop] at f3
  rw [List.getElem?_drop] at f1 f2
  refine ⟨i + x, k + y, ⟨by omega, by omega, (List.getElem?_eq_some_iff.1 f1).1, (List.getElem?_eq_some_iff.1 f2).1, ⟨u, f1, f2, f3⟩, ?_⟩, ?_⟩
  · rintro x' y' hx hy hlt ⟨v, e1, e2, e3⟩
    refine f4 (x' - i) (y' - k) (by omega) ⟨v, ?_, ?_, ?_⟩
    · rw [List.getElem?_drop, show i + (x' - i) = x' by omega]; exact e1
    · rw [List.getElem?_drop, show k + (y' - k) = y' by omega]; exact e2
    · rw [List.drop_drop, List.drop_drop, show i + (x' - i + 1) = x' + 1 by omega, show k + (y' - k + 1) = y' + 1 by omega]; exact e3
  · rw [List.drop_drop, List.drop_drop] at f5
    exact f5
/-- what the loop over pairs has made -/
def PG (A B : List α) (i k : Nat) (done : List (Nat × Nat)) : Prop := pairs A B 0 0 = done ++ pairs (A.drop i) (B.drop k) i k ∧ i ≤ A.length ∧ k ≤ B.length ∧ done.length ≤ i
theorem PG.start (A B : List α) : PG A B 0 0 [] := ⟨rfl, Nat.zero_le _, Nat.zero_le _, Nat.le_refl _⟩
theorem PG.step {A B : List α} {i k : Nat} {done : List (Nat × Nat)} (h : PG A B i k done) {x y : Nat} (hf : FirstP A B i k x y) (hp : pairs (A.drop i) (B.drop k) i k = (x, y) :: pairs (A.drop (x + 1)) (B.drop (y + 1)) (x + 1) (y + 1)) :
    PG A B (x + 1) (y + 1) (done ++ [(x, y)]) := by
  obtain ⟨h1, h2, h3, h4⟩ := h
  obtain ⟨f1, f2, f3, f4, _⟩ := hf
  refine ⟨?_, by omega, by omega, by rw [List.length_append, List.length_singleton]; omega⟩
  rw [h1, hp, List.append_assoc]
  rfl
theorem PG.done {A B : List α} {i k : Nat} {done : List (Nat × Nat)} (h : PG A B i k done) (hz : lcs (A.drop i) (B.drop k) = 0) : done = pairs A B 0 0 := by
  rw [h.1, pairs_zero _ _ _ _ hz, List.append_nil]
theorem lcs_le_both (a b : List α) : lcs a b ≤ b.length := by
  induction b with
  | nil => rw [lcs_nil2]; exact Nat.zero_le _
  | cons y b ih => have := (lcs_mono a b y y).2.2.2; rw [List.length_cons]; omega
end

section
variable {α : Type}
/-- pairs that rise, from (f, t) on -/
def Rise (n m : Nat) : List (Nat × Nat) → Nat → Nat → Prop
  | [], _, _ => True
  | p :: l, f, t => f ≤ p.1 ∧ t ≤ p.2 ∧ p.1 ≤ n ∧ p.2 ≤ m ∧ Rise n m l (p.1 + 1) (p.2 + 1)
theorem rise_prs {A B : List α} : ∀ (l : List (Nat × Nat)) (i j : Nat), Prs A B i j l → i ≤ A.length → j ≤ B.length → Rise A.length B.length (l ++ [(A.length, B.length)]) i j
  | [], i, j, _, hi, hj => ⟨hi, hj, Nat.le_refl _, Nat.le_refl _, trivial⟩
  | p :: l, i, j, h, hi, hj => by
    obtain ⟨h1, h2, ⟨u, h3, h4⟩, h5⟩ := h
    have l3 := (List.getElem?_eq_some_iff.1 h3).1
    have l4 := (List.getElem?_eq_some_iff.1 h4).1
    exact ⟨h1, h2, by omega, by omega, rise_prs l _ _ h5 (by omega) (by omega)⟩
/-- what the loop over pairs has made of hunks -/
def SG (n : Nat) (B : List α) (L : List (Nat × Nat)) (k f t : Nat) (done : List (Nat × Nat × List α)) : Prop :=
  scr B L 0 0 = done ++ scr B (L.drop k) f t ∧ Rise n B.length (L.drop k) f t ∧ done.length ≤ k
theorem SG.start {n : Nat} {B : List α} {L : List (Nat × Nat)} (h : Rise n B.length L 0 0) : SG n B L 0 0 0 [] := ⟨rfl, h, Nat.le_refl _⟩
theorem SG.step {n : Nat} {B : List α} {L : List (Nat × Nat)} {k f t : Nat} {done : List (Nat × Nat × List α)} (h : SG n B L k f t done) {x y : Nat} (hp : L[k]? = some (x, y)) :
    (f ≤ x ∧ t ≤ y ∧ x ≤ n ∧ y ≤ B.length) ∧ ((f < x ∨ t < y) → SG n B L (k + 1) (x + 1) (y + 1) (done ++ [(f, x, (B.drop t).take (y - t))])) ∧ (¬ (f < x ∨ t < y) → SG n B L (k + 1) (x + 1) (y + 1) done) := by
  obtain ⟨h1, h2, h3⟩ := h
  obtain ⟨hl, he⟩ := List.getElem?_eq_some_iff.1 hp
  rw [List.drop_eq_getElem_cons hl, he] at h1 h2
  obtain ⟨g1, g2, g3, g4, g5⟩ := h2
  refine ⟨⟨g1, g2, g3, g4⟩, fun hc => ⟨?_, g5, by rw [List.length_append, List.length_singleton]; omega⟩, fun hc => ⟨?_, g5, by omega⟩⟩
  · rw [h1]
    show done ++ ((if f < x ∨ t < y then _ else _) ++ _) = _
    rw [if_pos hc, List.append_assoc]
  · rw [h1]
    show done ++ ((if f < x ∨ t < y then _ else _) ++ _) = _
    rw [if_neg hc, List.nil_append]
theorem SG.done {n : Nat} {B : List α} {L : List (Nat × Nat)} {k f t : Nat} {done : List (Nat × Nat × List α)} (h : SG n B L k f t done) (hk : L.length ≤ k) : done = scr B L 0 0 := by
  rw [h.1, List.drop_eq_nil_of_le hk]
  exact (List.append_nil _).symm
theorem pairs_len_le [DecidableEq α] (A B : List α) : (pairs A B 0 0).length ≤ A.length := by
  rw [(comm_prs A B A B 0 0 rfl rfl).2]
  have : ∀ (a b : List α), lcs a b ≤ a.length := by
    intro a
    induction a with
    | nil => intro b; rw [lcs_nil]; exact Nat.zero_le _
    | cons x a ih => intro b; have := (lcs_mono a b x x).2.2.1; have := ih b; rw [List.length_cons]; omega
  exact this A B
theorem rise_pairs [DecidableEq α] (A B : List α) : Rise A.length B.length (pairs A B 0 0 ++ [(A.length, B.length)]) 0 0 := rise_prs _ _ _ (comm_prs A B A B 0 0 rfl rfl).1 (Nat.zero_le _) (Nat.zero_le _)
end
end Go.Proofs.YtfhkmmicdbblnaaDoor

