/-
  The table of lengths in memory: one block of numbers, one block of rows; how it is filled.
-/
import Derived.Test.YtfhkmmicdbblnaaDoorM3
import Derived.Test.YtfhkmmicdbblnaaDoorME
namespace Go.Proofs.YtfhkmmicdbblnaaDoor
set_option linter.unusedSimpArgs false
set_option linter.unusedVariables false
open Go.RowKit

/-- the rows of the table: slices of one block -/
def TR (w : World) (g h n m : Nat) (k : Nat) : Prop :=
  ∀ i, i < k → i ≤ n → w.cell? ⟨h, i, none⟩ = some (.slice (some ⟨g, i * (m + 1), none⟩) (m + 1) ((n + 1) * (m + 1) - i * (m + 1)))
/-- the table: rows from k on are done, and of row k - 1 the places from l on -/
def TI (w : World) (g h : Nat) (a b : List Int) (k l : Nat) : Prop :=
  TR w g h a.length b.length (a.length + 1) ∧
  (∀ x y, x ≤ a.length → y ≤ b.length → ∃ v : Int, w.cell? ⟨g, x * (b.length + 1) + y, none⟩ = some (.int .i64 v) ∧ (k ≤ x ∨ y = b.length ∨ (x + 1 = k ∧ l ≤ y) → v = (lcs (a.drop x) (b.drop y) : Nat))) ∧
  (∀ p, w.frozen? ⟨g, p, none⟩ = false) ∧ g < h ∧ h < w.heap.size
/-- the table as it is done -/
def TB (w : World) (g h : Nat) (a b : List Int) : Prop :=
  TR w g h a.length b.length (a.length + 1) ∧ (∀ x y, x ≤ a.length → y ≤ b.length → w.cell? ⟨g, x * (b.length + 1) + y, none⟩ = some (.int .i64 (lcs (a.drop x) (b.drop y) : Nat))) ∧ g < h ∧ h < w.heap.size
theorem TR.below {w w' : World} {g h n m k : Nat} (t : TR w g h n m k) (hb : Below w.heap.size w w') (hh : h < w.heap.size) : TR w' g h n m k := fun i h1 h2 => (hb.cell (p := ⟨h, i, none⟩) hh).trans (t i h1 h2)
theorem TI.below {w w' : World} {g h : Nat} {a b : List Int} {k l : Nat} (t : TI w g h a b k l) (hb : Below w.heap.size w w') : TI w' g h a b k l := by
  obtain ⟨t1, t2, t3, t4, t5⟩ := t
  have hg : g < w.heap.size := by omega
  refine ⟨t1.below hb t5, fun x y hx hy => ?_, fun p => (hb.frozen (p := ⟨g, p, none⟩) hg).trans (t3 p), t4, Nat.lt_of_lt_of_le t5 hb.size⟩
  obtain ⟨v, h1, h2⟩ := t2 x y hx hy
  exact ⟨v, (hb.cell (p := ⟨g, _, none⟩) hg).trans h1, h2⟩
theorem TB.below {w w' : World} {g h : Nat} {a b : List Int} (t : TB w g h a b) (hb : Below w.heap.size w w') : TB w' g h a b :=
  ⟨t.1.below hb t.2.2.2, fun x y hx hy => (hb.cell (p := ⟨g, _, none⟩) (by have h1 := t.2.2.1; have h2 := t.2.2.2; exact Nat.lt_trans h1 h2)).trans (t.2.1 x y hx hy), t.2.2.1, Nat.lt_of_lt_of_le t.2.2.2 hb.size⟩
theorem kept_tb (g h : Nat) (a b : List Int) : Kept (fun w => TB w g h a b) := fun w w' t hb => t.below hb
theorem place_inj {m x y x' y' : Nat} (hy : y ≤ m) (hy' : y' ≤ m) (h : x * (m + 1) + y = x' * (m + 1) + y') : x = x' ∧ y = y' := by
  have e1 : (x * (m + 1) + y) / (m + 1) = x := by
    rw [Nat.mul_comm, Nat.mul_add_div (by omega), Nat.div_eq_of_lt (by omega), Nat.add_zero]
  have e2 : (x' * (m + 1) + y') / (m + 1) = x' := by
    rw [Nat.mul_comm, Nat.mul_add_div (by omega), Nat.div_eq_of_lt (by omega), Nat.add_zero]
  have e3 : x = x' := by rw [← e1, ← e2, h]
  subst e3
  exact ⟨rfl, by omega⟩
theorem place_lt {n m x : Nat} (hx : x ≤ n) : (x + 1) * (m + 1) ≤ (n + 1) * (m + 1) := Nat.mul_le_mul_right _ (by omega)
theorem lcs_at {a b : List Int} {x y : Nat} {u v : Int} (hx : a[x]? = some u) (hy : b[y]? = some v) : lcs (a.drop x) (b.drop y) = if u = v then 1 + lcs (a.drop (x + 1)) (b.drop (y + 1)) else max (lcs (a.drop (x + 1)) (b.drop y)) (lcs (a.drop x) (b.drop (y + 1))) := by
  obtain ⟨h1, h2⟩ := List.getElem?_eq_some_iff.1 hx
  obtain ⟨h3, h4⟩ := List.getElem?_eq_some_iff.1 hy
  rw [List.drop_eq_getElem_cons h1, List.drop_eq_getElem_cons h3, h2, h4, lcs_cons]
/-- a place is done -/
theorem TI.put {w : World} {g h : Nat} {a b : List Int} {k l : Nat} (t : TI w g h a b (k + 1) (l + 1)) (hl : l < b.length) (hk : k < a.length) {v : Int} (hv : v = (lcs (a.drop k) (b.drop l) : Nat)) :
    TI (w.setCell ⟨g, k * (b.length + 1) + l, none⟩ (.int .i64 v)) g h a b (k + 1) l := by
  obtain ⟨t1, t2, t3, t4, t5⟩ := t
  refine ⟨fun i h1 h2 => ?_, fun x y hx hy => ?_, fun p => ?_, t4, by simpa [World.setCell] using t5⟩
  · rw [World.cell?_setCell_other _ _ _ _ (by intro e; cases e; exact Nat.lt_irrefl _ t4)]
    exact t1 i h1 h2
  · by_cases e : x = k ∧ y = l
    · obtain ⟨rfl, rfl⟩ := e
      obtain ⟨v0, h1, _⟩ := t2 x y hx hy
      exact ⟨v, World.cell?_setCell_same _ _ _ h1, fun _ => hv⟩
    · obtain ⟨v0, h1, h2⟩ := t2 x y hx hy
      refine ⟨v0, ?_, fun hd => h2 ?_⟩
      · rw [World.cell?_setCell_other _ _ _ _ (by
          intro e2
          simp only [Addr.mk.injEq, true_and, and_true] at e2
          exact e (place_inj hy (by omega) e2.symm))]
        exact h1
      · omega
  · rw [World.frozen?_setCell]; exact t3 p
/-- a row is done -/
theorem TI.row {w : World} {g h : Nat} {a b : List Int} {k : Nat} (t : TI w g h a b (k + 1) 0) : TI w g h a b k b.length := by
  obtain ⟨t1, t2, t3, t4, t5⟩ := t
  refine ⟨t1, fun x y hx hy => ?_, t3, t4, t5⟩
  obtain ⟨v, h1, h2⟩ := t2 x y hx hy
  exact ⟨v, h1, fun hd => h2 (by omega)⟩
theorem TI.done {w : World} {g h : Nat} {a b : List Int} {l : Nat} (t : TI w g h a b 0 l) : TB w g h a b := by
  obtain ⟨t1, t2, t3, t4, t5⟩ := t
  refine ⟨t1, fun x y hx hy => ?_, t4, t5⟩
  obtain ⟨v, h1, h2⟩ := t2 x y hx hy
  rw [h1, h2 (.inl (Nat.zero_le _))]
/-- the beginning: all is nought -/
theorem TI.start {w : World} {g h : Nat} {a b : List Int} (t1 : TR w g h a.length b.length (a.length + 1)) (t2 : ∀ p, p < (a.length + 1) * (b.length + 1) → w.cell? ⟨g, p, none⟩ = some (.int .i64 0)) (t3 : ∀ p, w.frozen? ⟨g, p, none⟩ = false) (t4 : g < h) (t5 : h < w.heap.size) : TI w g h a b a.length b.length := by
  refine ⟨t1, fun x y hx hy => ⟨0, t2 _ ?_, fun hd => ?_⟩, t3, t4, t5⟩
  · have := place_lt (m := b.length) hx
    rw [Nat.succ_mul] at this
    omega
  · rcases hd with h1 | h1 | h1
    · have : x = a.length := by omega
      subst this
      rw [List.drop_length]; rfl
    · subst h1
      rw [List.drop_length, lcs_nil2]; rfl
    · have : y = b.length := by omega
      subst this
      rw [List.drop_length, lcs_nil2]; rfl
/-- what a round reads: two rows, three places, and the place that it writes -/
theorem TI.reads {w : World} {g h : Nat} {a b : List Int} {k l : Nat} (t : TI w g h a b (k + 1) (l + 1)) (hl : l < b.length) (hk : k < a.length) :
    w.cell? ⟨h, k, none⟩ = some (.slice (some ⟨g, k * (b.length + 1), none⟩) (b.length + 1) ((a.length + 1) * (b.length + 1) - k * (b.length + 1))) ∧
    w.cell? ⟨h, k + 1, none⟩ = some (.slice (some ⟨g, (k + 1) * (b.length + 1), none⟩) (b.length + 1) ((a.length + 1) * (b.length + 1) - (k + 1) * (b.length + 1))) ∧
    w.cell? ⟨g, (k + 1) * (b.length + 1) + (l + 1), none⟩ = some (.int .i64 (lcs (a.drop (k + 1)) (b.drop (l + 1)) : Nat)) ∧
    w.cell? ⟨g, (k + 1) * (b.length + 1) + l, none⟩ = some (.int .i64 (lcs (a.drop (k + 1)) (b.drop l) : Nat)) ∧
    w.cell? ⟨g, k * (b.length + 1) + (l + 1), none⟩ = some (.int .i64 (lcs (a.drop k) (b.drop (l + 1)) : Nat)) ∧
    (∃ v : Int, w.cell? ⟨g, k * (b.length + 1) + l, none⟩ = some (.int .i64 v)) ∧ w.frozen? ⟨g, k * (b.length + 1) + l, none⟩ = false := by
  obtain ⟨t1, t2, t3, t4, t5⟩ := t
  have q := fun x y hx hy => t2 x y hx hy
  obtain ⟨v1, a1, a2⟩ := q (k + 1) (l + 1) (by omega) (by omega)
  obtain ⟨v2, b1, b2⟩ := q (k + 1) l (by omega) (by omega)
  obtain ⟨v3, c1, c2⟩ := q k (l + 1) (by omega) (by omega)
  obtain ⟨v4, d1, _⟩ := q k l (by omega) (by omega)
  rw [a2 (.inl (by omega))] at a1
  rw [b2 (.inl (by omega))] at b1
  rw [c2 (.inr (.inr ⟨rfl, Nat.le_refl _⟩))] at c1
  exact ⟨t1 k (by omega) (by omega), t1 (k + 1) (by omega) (by omega), a1, b1, c1, ⟨v4, d1⟩, t3 _⟩
theorem lcs_le_len {α : Type} [DecidableEq α] (a b : List α) : lcs a b ≤ a.length := by
  have h : ∀ (n : Nat) (a b : List α), a.length = n → lcs a b ≤ n := by
    intro n
    induction n with
    | zero =>
      intro a b h
      have : a = [] := List.eq_nil_of_length_eq_zero h
      subst this
      exact Nat.le_refl _
    | succ n ih =>
      intro a b h
      cases a with
      | nil => simp at h
      | cons x a =>
        have := (lcs_mono a b x x).2.2.1
        have := ih a b (by simpa using h)
        omega
  exact h _ a b rfl
end Go.Proofs.YtfhkmmicdbblnaaDoor

