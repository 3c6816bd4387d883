/-
  Rules: the walk of the reference's NarrowRight.
-/
import Derived.Test.YtidjmbmnfnnleaaDoorMT
import Derived.Deep.RegionHeld3
import Derived.Deep.DeepCutAuto
namespace Go.Proofs.YtidjmbmnfnnleaaDoor
set_option linter.unusedSimpArgs false
set_option linter.unusedVariables false
open Go.RowKit
open Pm

theorem PNL.held {W : World} {ex : Bool} {A : Option Addr} {c : Nat} {xs : List ByteArray} {r : Bool} {B : Option Addr} {d : Nat} {ys : List ByteArray} {t : Bool} {C : Option Addr} {e : Nat} {zs : List ByteArray} {u : Bool} {w : World} (h : At (PNL W ex A c xs r B d ys t C e zs u) w) :
    (w.cell? ⟨W.heap.size, 0, none⟩ = some (.bool ex) ∧ w.cell? ⟨W.heap.size, 1, none⟩ = some (.slice A xs.length c) ∧ w.cell? ⟨W.heap.size, 2, none⟩ = some (.bool r) ∧ w.cell? ⟨W.heap.size, 3, none⟩ = some (.slice B ys.length d) ∧ w.cell? ⟨W.heap.size, 4, none⟩ = some (.bool t)) ∧ w.cell? ⟨W.heap.size + 1, 0, none⟩ = some (.slice C zs.length e) ∧ w.cell? ⟨W.heap.size + 1, 1, none⟩ = some (.bool u) :=
  ⟨⟨h.out.1.1.1, h.out.1.1.2.1, h.out.1.1.2.2.1, h.out.1.1.2.2.2.1, h.out.1.1.2.2.2.2.1⟩, h.out.1.2.1, h.out.1.2.2.1⟩
/-- all blocks from w on are boxes of the empty rule -/
def Z5 (w : World) (g : Nat) : Prop := P5 w g (.bool false) (.slice none 0 0) (.bool false) (.slice none 0 0) (.bool false) ∧ F5 w g
theorem kept_z5 (g : Nat) : Kept (fun w => Z5 w g) := (kept_p5 _ _ _ _ _ _).both (kept_f5 _)
def QB5 (w w' : World) : Prop := ∀ g, w.heap.size ≤ g → g < w'.heap.size → Z5 w' g
theorem QB5.refl (w : World) : QB5 w w := fun g h1 h2 => by omega
theorem QB5.drew {w w' : World} (h : QB5 w w') : QB5 w w'.drew := fun g h1 h2 => kept_z5 g _ _ (h g h1 h2) (Below.refl _ _).drew
theorem QB5.alloc {w w' : World} (h : QB5 w w') (t : TypeId) : QB5 w (w'.alloc (.cells #[.bool false, .slice none 0 0, .bool false, .slice none 0 0, .bool false] t)) := fun g h1 h2 => by
  rcases Nat.lt_or_ge g w'.heap.size with h3 | h3
  · exact kept_z5 g _ _ (h g h1 h3) (below_alloc _ _)
  · have : g = w'.heap.size := by simp at h2; omega
    subst this
    exact ⟨P5.new _ _ _ _ _ _ _, F5.new _ _ _ _ _ _ _⟩
theorem QB5.carry {w V w' : World} (h : QB5 w V) (hb : Below V.heap.size V w') : ∀ g, w.heap.size ≤ g → g < V.heap.size → Z5 w' g := fun g h1 h2 => kept_z5 g _ _ (h g h1 h2) hb
theorem P5.put {w : World} {g : Nat} {u0 u1 u2 u3 u4 : Value} (h : P5 w g u0 u1 u2 u3 u4) (a b c d e : Value) : P5 (set5 w g a b c d e) g a b c d e := by
  have ne : ∀ (W : World) (i j : Nat) (v : Value), i ≠ j → (W.setCell ⟨g, i, none⟩ v).cell? ⟨g, j, none⟩ = W.cell? ⟨g, j, none⟩ := fun W i j v hij => World.cell?_setCell_other _ _ _ _ (by simp [hij.symm])
  unfold set5
  refine ⟨?_, ?_, ?_, ?_, ?_, ?_⟩
  · rw [ne _ _ _ _ (by decide), ne _ _ _ _ (by decide), ne _ _ _ _ (by decide), ne _ _ _ _ (by decide)]
    exact World.cell?_setCell_same _ _ _ h.1
  · rw [ne _ _ _ _ (by decide), ne _ _ _ _ (by decide), ne _ _ _ _ (by decide)]
    exact World.cell?_setCell_same _ _ _ ((ne _ _ _ _ (by decide)).trans h.2.1)
  · rw [ne _ _ _ _ (by decide), ne _ _ _ _ (by decide)]
    exact World.cell?_setCell_same _ _ _ ((ne _ _ _ _ (by decide)).trans ((ne _ _ _ _ (by decide)).trans h.2.2.1))
  · rw [ne _ _ _ _ (by decide)]
    exact World.cell?_setCell_same _ _ _ ((ne _ _ _ _ (by decide)).trans ((ne _ _ _ _ (by decide)).trans ((ne _ _ _ _ (by decide)).trans h.2.2.2.1)))
  · exact World.cell?_setCell_same _ _ _ ((ne _ _ _ _ (by decide)).trans ((ne _ _ _ _ (by decide)).trans ((ne _ _ _ _ (by decide)).trans ((ne _ _ _ _ (by decide)).trans h.2.2.2.2.1))))
  · simpa [World.setCell] using h.2.2.2.2.2
theorem QZ3 {a b : Nat} {w2 w4 : World} (hq : ∀ g, a ≤ g → g < b → Z5 w2 g) (hb : Below w2.heap.size w2 w4) : ∀ g, a ≤ g → g < b → Z5 w4 g := fun g h1 h2 => kept_z5 g _ _ (hq g h1 h2) hb
theorem go4 {w v w' : World} (h1 : Below w.heap.size w v) (h2 : Below v.heap.size v w') : Below w.heap.size w w' := h1.trans (h2.mono h1.size)
theorem PNL.out {W : World} {ex : Bool} {A : Option Addr} {c : Nat} {xs : List ByteArray} {r : Bool} {B : Option Addr} {d : Nat} {ys : List ByteArray} {t : Bool} {C : Option Addr} {e : Nat} {zs : List ByteArray} {u : Bool} {w : World} (h : At (PNL W ex A c xs r B d ys t C e zs u) w) : (RT w A c xs ∧ RT w B d ys ∧ RT w C e zs) ∧ ML w := ⟨h.out.2.2.1, h.out.2.2.2.1⟩
end Go.Proofs.YtidjmbmnfnnleaaDoor

