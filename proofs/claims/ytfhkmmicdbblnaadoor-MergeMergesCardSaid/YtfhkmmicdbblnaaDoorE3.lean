/-
  The reference's table of lengths in memory: a block of rows, each row a block of its own; how it is filled.
-/
import Derived.Test.YtfhkmmicdbblnaaDoorM4
import Derived.Test.YtfhkmmicdbblnaaDoorM5
import Derived.Test.YtfhkmmicdbblnaaDoorME
namespace Go.Proofs.YtfhkmmicdbblnaaDoor
set_option linter.unusedSimpArgs false
set_option linter.unusedVariables false
open Go.RowKit

/-- the rows from lo on, each in a block between g and hi -/
def RWS (w : World) (g hi : Nat) (a b : List ByteArray) (lo : Nat) : Prop :=
  ∀ j, lo ≤ j → j ≤ a.length → ∃ h, w.cell? ⟨g, j, none⟩ = some (.slice (some ⟨h, 0, none⟩) (b.length + 1) (b.length + 1)) ∧ g < h ∧ h < hi ∧ ∀ y, y ≤ b.length → w.cell? ⟨h, y, none⟩ = some (.int .i64 (lcs (a.drop j) (b.drop y) : Nat))
theorem RWS.below {w w' : World} {g hi : Nat} {a b : List ByteArray} {lo : Nat} (t : RWS w g hi a b lo) (hb : Below w.heap.size w w') (hg : g < w.heap.size) (hh : hi ≤ w.heap.size) : RWS w' g hi a b lo := fun j h1 h2 => by
  obtain ⟨h, e, g1, g2, hc⟩ := t j h1 h2
  exact ⟨h, (hb.cell (p := ⟨g, j, none⟩) hg).trans e, g1, g2, fun y hy => (hb.cell (p := ⟨h, y, none⟩) (Nat.lt_of_lt_of_le g2 hh)).trans (hc y hy)⟩
/-- the table with its rows from k on -/
def TAB (w : World) (g : Nat) (a b : List ByteArray) (k : Nat) : Prop :=
  RWS w g w.heap.size a b k ∧ (∀ j, j < k → j ≤ a.length → w.cell? ⟨g, j, none⟩ = some (.slice none 0 0)) ∧ (∀ p, w.frozen? ⟨g, p, none⟩ = false) ∧ g < w.heap.size
theorem TAB.below {w w' : World} {g : Nat} {a b : List ByteArray} {k : Nat} (t : TAB w g a b k) (hb : Below w.heap.size w w') : TAB w' g a b k := by
  obtain ⟨t1, t2, t3, t4⟩ := t
  refine ⟨fun j h1 h2 => ?_, fun j h1 h2 => (hb.cell (p := ⟨g, j, none⟩) t4).trans (t2 j h1 h2), fun p => (hb.frozen (p := ⟨g, p, none⟩) t4).trans (t3 p), Nat.lt_of_lt_of_le t4 hb.size⟩
  obtain ⟨h, e, g1, g2, hc⟩ := (t1.below hb t4 (Nat.le_refl _)) j h1 h2
  exact ⟨h, e, g1, Nat.lt_of_lt_of_le g2 hb.size, hc⟩
theorem new_row (w : World) (z : Value) (n : Nat) (hn : n ≤ 1000000) (T : TypeId) {g : Nat} (hg : g = w.heap.size) :
    (∀ j, j < n → (w.alloc (.cells (madeCells #[z] n) T)).cell? ⟨g, j, none⟩ = some z) ∧ ∀ p, (w.alloc (.cells (madeCells #[z] n) T)).frozen? ⟨g, p, none⟩ = false := by
  subst hg
  have h := OV.made w w.heap.size T z n (Nat.le_refl _) (by omega) rfl
  refine ⟨fun j hj => (h.cell (k := j) (x := z) (by rw [List.getElem?_replicate, if_pos hj])).1, fun p => ?_⟩
  obtain ⟨cur, hh, _⟩ := h.form
  exact frozen_of_row _ _ p cur _ hh
theorem TAB.start (w : World) (a b : List ByteArray) (T : TypeId) (ha : a.length ≤ 900) {g : Nat} (hg : g = w.heap.size) : TAB (w.alloc (.cells (madeCells #[.slice none 0 0] (a.length + 1)) T)) g a b (a.length + 1) := by
  obtain ⟨h1, h2⟩ := new_row w (.slice none 0 0) (a.length + 1) (by omega) T hg
  exact ⟨fun j h1 h2 => by omega, fun j _ h3 => h1 j (by omega), h2, by subst hg; simp⟩
/-- row k is being made in the block h: its places from l on are done -/
def ROW (w : World) (g h : Nat) (a b : List ByteArray) (k l : Nat) : Prop :=
  RWS w g h a b (k + 1) ∧ w.cell? ⟨g, k, none⟩ = some (.slice (some ⟨h, 0, none⟩) (b.length + 1) (b.length + 1)) ∧ (∀ j, j < k → j ≤ a.length → w.cell? ⟨g, j, none⟩ = some (.slice none 0 0)) ∧
  (∀ y, y ≤ b.length → ∃ v : Int, w.cell? ⟨h, y, none⟩ = some (.int .i64 v) ∧ (l ≤ y → v = (lcs (a.drop k) (b.drop y) : Nat))) ∧ (∀ p, w.frozen? ⟨g, p, none⟩ = false) ∧ (∀ p, w.frozen? ⟨h, p, none⟩ = false) ∧ g < h ∧ h < w.heap.size
theorem ROW.below {w w' : World} {g h : Nat} {a b : List ByteArray} {k l : Nat} (t : ROW w g h a b k l) (hb : Below w.heap.size w w') : ROW w' g h a b k l := by
  obtain ⟨t1, t2, t3, t4, t5, t6, t7, t8⟩ := t
  have hg : g < w.heap.size := by omega
  refine ⟨t1.below hb hg (Nat.le_of_lt t8), (hb.cell (p := ⟨g, k, none⟩) hg).trans t2, fun j h1 h2 => (hb.cell (p := ⟨g, j, none⟩) hg).trans (t3 j h1 h2), fun y hy => ?_,
    fun p => (hb.frozen (p := ⟨g, p, none⟩) hg).trans (t5 p), fun p => (hb.frozen (p := ⟨h, p, none⟩) t8).trans (t6 p), t7, Nat.lt_of_lt_of_le t8 hb.size⟩
  obtain ⟨v, e, hv⟩ := t4 y hy
  exact ⟨v, (hb.cell (p := ⟨h, y, none⟩) t8).trans e, hv⟩
/-- a row that is all nought -/
theorem TAB.row {w : World} {g : Nat} {a b : List ByteArray} {k : Nat} (t : TAB w g a b (k + 1)) (hk : k ≤ a.length) (hb : b.length ≤ 900) (T : TypeId) {h : Nat} (hh : h = w.heap.size) :
    ROW ((w.setCell ⟨g, k, none⟩ (.slice (some ⟨h, 0, none⟩) (b.length + 1) (b.length + 1))).alloc (.cells (madeCells #[.int .i64 0] (b.length + 1)) T)) g h a b k (b.length + 1) ∧
    ∀ y, y ≤ b.length → ((w.setCell ⟨g, k, none⟩ (.slice (some ⟨h, 0, none⟩) (b.length + 1) (b.length + 1))).alloc (.cells (madeCells #[.int .i64 0] (b.length + 1)) T)).cell? ⟨h, y, none⟩ = some (.int .i64 0) := by
  obtain ⟨t1, t2, t3, t4⟩ := t
  have hself : (w.setCell ⟨g, k, none⟩ (.slice (some ⟨h, 0, none⟩) (b.length + 1) (b.length + 1))).cell? ⟨g, k, none⟩ = some (.slice (some ⟨h, 0, none⟩) (b.length + 1) (b.length + 1)) := World.cell?_setCell_same _ _ _ (t2 k (Nat.lt_succ_self _) hk)
  have s1 : RWS (w.setCell ⟨g, k, none⟩ (.slice (some ⟨h, 0, none⟩) (b.length + 1) (b.length + 1))) g h a b (k + 1) := fun j h1 h2 => by
    obtain ⟨h', e, g1, g2, hc⟩ := t1 j h1 h2
    refine ⟨h', ?_, g1, by omega, fun y hy => ?_⟩
    · rw [World.cell?_setCell_other _ _ _ _ (by intro e; cases e; omega)]; exact e
    · rw [World.cell?_setCell_other _ _ _ _ (by intro e; cases e; exact Nat.lt_irrefl _ g1)]; exact hc y hy
  have s2 : ∀ j, j < k → j ≤ a.length → (w.setCell ⟨g, k, none⟩ (.slice (some ⟨h, 0, none⟩) (b.length + 1) (b.length + 1))).cell? ⟨g, j, none⟩ = some (.slice none 0 0) := fun j h1 h2 => by
    rw [World.cell?_setCell_other _ _ _ _ (by intro e; cases e; exact Nat.lt_irrefl _ h1)]; exact t2 j (by omega) h2
  have s3 : ∀ p, (w.setCell ⟨g, k, none⟩ (.slice (some ⟨h, 0, none⟩) (b.length + 1) (b.length + 1))).frozen? ⟨g, p, none⟩ = false := fun p => by rw [World.frozen?_setCell]; exact t3 p
  have hsz : (w.setCell ⟨g, k, none⟩ (.slice (some ⟨h, 0, none⟩) (b.length + 1) (b.length + 1))).heap.size = w.heap.size := by simp [World.setCell]
  generalize w.setCell ⟨g, k, none⟩ (.slice (some ⟨h, 0, none⟩) (b.length + 1) (b.length + 1)) = w1 at *
  obtain ⟨n1, n2⟩ := new_row w1 (.int .i64 0) (b.length + 1) (by omega) T (g := h) (by omega)
  have hb1 := below_alloc w1 (.cells (madeCells #[.int .i64 0] (b.length + 1)) T)
  have hg1 : g < w1.heap.size := by omega
  exact ⟨⟨s1.below hb1 hg1 (by omega), (hb1.cell (p := ⟨g, k, none⟩) hg1).trans hself, fun j h1 h2 => (hb1.cell (p := ⟨g, j, none⟩) hg1).trans (s2 j h1 h2), fun y hy => ⟨0, n1 y (by omega), fun hh => by omega⟩,
    fun p => (hb1.frozen (p := ⟨g, p, none⟩) hg1).trans (s3 p), n2, by omega, by simp; omega⟩, fun y hy => n1 y (by omega)⟩
theorem ROW.put {w : World} {g h : Nat} {a b : List ByteArray} {k l : Nat} (t : ROW w g h a b k (l + 1)) (hl : l ≤ b.length) (v : Int) : ROW (w.setCell ⟨h, l, none⟩ (.int .i64 v)) g h a b k (l + 1) ∧ (w.setCell ⟨h, l, none⟩ (.int .i64 v)).cell? ⟨h, l, none⟩ = some (.int .i64 v) := by
  obtain ⟨t1, t2, t3, t4, t5, t6, t7, t8⟩ := t
  have hne : ∀ j y, (⟨g, j, none⟩ : Addr) ≠ ⟨h, y, none⟩ := fun j y e => by cases e; exact Nat.lt_irrefl _ t7
  obtain ⟨v0, e0, _⟩ := t4 l hl
  have hself : (w.setCell ⟨h, l, none⟩ (.int .i64 v)).cell? ⟨h, l, none⟩ = some (.int .i64 v) := World.cell?_setCell_same _ _ _ e0
  refine ⟨⟨fun j h1 h2 => ?_, ?_, fun j h1 h2 => ?_, fun y hy => ?_, fun p => by rw [World.frozen?_setCell]; exact t5 p, fun p => by rw [World.frozen?_setCell]; exact t6 p, t7, by simpa [World.setCell] using t8⟩, hself⟩
  · obtain ⟨h', e, g1, g2, hc⟩ := t1 j h1 h2
    refine ⟨h', ?_, g1, g2, fun y hy => ?_⟩
    · rw [World.cell?_setCell_other _ _ _ _ (hne _ _).symm]; exact e
    · rw [World.cell?_setCell_other _ _ _ _ (by intro e; cases e; exact Nat.lt_irrefl _ g2)]; exact hc y hy
  · rw [World.cell?_setCell_other _ _ _ _ (hne _ _).symm]; exact t2
  · rw [World.cell?_setCell_other _ _ _ _ (hne _ _).symm]; exact t3 j h1 h2
  · by_cases e : y = l
    · subst e
      exact ⟨v, hself, fun hh => by omega⟩
    · obtain ⟨u, e1, e2⟩ := t4 y hy
      exact ⟨u, by rw [World.cell?_setCell_other _ _ _ _ (by intro e'; cases e'; exact e rfl)]; exact e1, e2⟩
theorem ROW.fix {w : World} {g h : Nat} {a b : List ByteArray} {k l : Nat} (t : ROW w g h a b k (l + 1)) {v : Int} (hc : w.cell? ⟨h, l, none⟩ = some (.int .i64 v)) (hv : v = (lcs (a.drop k) (b.drop l) : Nat)) : ROW w g h a b k l := by
  obtain ⟨t1, t2, t3, t4, t5⟩ := t
  refine ⟨t1, t2, t3, fun y hy => ?_, t5⟩
  by_cases e : y = l
  · subst e
    exact ⟨v, hc, fun _ => hv⟩
  · obtain ⟨u, e1, e2⟩ := t4 y hy
    exact ⟨u, e1, fun hh => e2 (by omega)⟩
theorem ROW.done {w : World} {g h : Nat} {a b : List ByteArray} {k : Nat} (t : ROW w g h a b k 0) : TAB w g a b k := by
  obtain ⟨t1, t2, t3, t4, t5, t6, t7, t8⟩ := t
  refine ⟨fun j h1 h2 => ?_, t3, t5, by omega⟩
  rcases Nat.eq_or_lt_of_le h1 with rfl | h3
  · refine ⟨h, t2, t7, t8, fun y hy => ?_⟩
    obtain ⟨v, e, hv⟩ := t4 y hy
    rw [e, hv (Nat.zero_le _)]
  · obtain ⟨h', e, g1, g2, hc⟩ := t1 j h3 h2
    exact ⟨h', e, g1, by omega, hc⟩
theorem ROW.last {w : World} {g h : Nat} {a b : List ByteArray} {l : Nat} (t : ROW w g h a b a.length l) (hz : ∀ y, y ≤ b.length → w.cell? ⟨h, y, none⟩ = some (.int .i64 0)) : TAB w g a b a.length := by
  obtain ⟨t1, t2, t3, t4, t5⟩ := t
  refine ROW.done (h := h) ⟨t1, t2, t3, fun y hy => ⟨0, hz y hy, fun _ => ?_⟩, t5⟩
  rw [lcs_edge2]
  rfl
/-- what a round reads -/
theorem ROW.reads {w : World} {g h : Nat} {a b : List ByteArray} {k l : Nat} (t : ROW w g h a b k (l + 1)) (hl : l ≤ b.length) (hk : k < a.length) :
    ∃ h', w.cell? ⟨g, k, none⟩ = some (.slice (some ⟨h, 0, none⟩) (b.length + 1) (b.length + 1)) ∧ w.cell? ⟨g, k + 1, none⟩ = some (.slice (some ⟨h', 0, none⟩) (b.length + 1) (b.length + 1)) ∧
      w.cell? ⟨h', l, none⟩ = some (.int .i64 (lcs (a.drop (k + 1)) (b.drop l) : Nat)) ∧ (l < b.length → w.cell? ⟨h', l + 1, none⟩ = some (.int .i64 (lcs (a.drop (k + 1)) (b.drop (l + 1)) : Nat))) ∧
      (l < b.length → w.cell? ⟨h, l + 1, none⟩ = some (.int .i64 (lcs (a.drop k) (b.drop (l + 1)) : Nat))) ∧ (∃ v : Int, w.cell? ⟨h, l, none⟩ = some (.int .i64 v)) ∧ w.frozen? ⟨h, l, none⟩ = false ∧ g < h' ∧ h' < h ∧ h < w.heap.size := by
  obtain ⟨t1, t2, t3, t4, t5, t6, t7, t8⟩ := t
  obtain ⟨h', e, g1, g2, hc⟩ := t1 (k + 1) (Nat.le_refl _) (by omega)
  refine ⟨h', t2, e, hc l hl, fun h1 => hc (l + 1) h1, fun h1 => ?_, ?_, t6 _, g1, g2, t8⟩
  · obtain ⟨v, e1, e2⟩ := t4 (l + 1) h1
    rw [e1, e2 (Nat.le_refl _)]
  · obtain ⟨v, e1, _⟩ := t4 l hl
    exact ⟨v, e1⟩
theorem TAB.at_ {w : World} {g : Nat} {a b : List ByteArray} (t : TAB w g a b 0) {j y : Nat} (hj : j ≤ a.length) (hy : y ≤ b.length) : ∃ h, w.cell? ⟨g, j, none⟩ = some (.slice (some ⟨h, 0, none⟩) (b.length + 1) (b.length + 1)) ∧ w.cell? ⟨h, y, none⟩ = some (.int .i64 (lcs (a.drop j) (b.drop y) : Nat)) := by
  obtain ⟨h, e, _, _, hc⟩ := t.1 j (Nat.zero_le _) hj
  exact ⟨h, e, hc y hy⟩
end Go.Proofs.YtfhkmmicdbblnaaDoor

