/-
  The state behind a part that was taken.
-/
import Derived.Test.YtfhkmmicdbblnaaDoorM10
namespace Go.Proofs.YtfhkmmicdbblnaaDoor
set_option linter.unusedSimpArgs false
set_option linter.unusedVariables false
open Go.RowKit

theorem gb_trans {a b c : World} {k : Option Nat} (h : a.grownBy b k) (h2 : b.grownBy c k) : a.grownBy c k :=
  ⟨h2.os.trans h.os, h2.tape.trans h.tape, h2.output.trans h.output, Nat.le_trans h.size h2.size, fun i hi hne => (h2.block i (Nat.lt_of_lt_of_le hi h.size) hne).trans (h.block i hi hne)⟩
/-- a part has been taken: the piece lies in the box g -/
def SM (w : World) (M : Nat) (tv v : Value) (t : List Nat) (g : Nat) (kd : Int) (s1 s2 s3 : Value) (l1 l2 l3 : List ByteArray) (wx : World) : Prop :=
  w.grownBy wx (some M) ∧ MB wx M tv t v ∧ BX wx g [.int .i64 kd, s1, s2, s3] ∧ (OT wx w.heap.size s1 l1 ∧ OT wx w.heap.size s2 l2 ∧ OT wx w.heap.size s3 l3) ∧ (s1.ownBlock ≠ some g ∧ s2.ownBlock ≠ some g ∧ s3.ownBlock ≠ some g) ∧ (Dis s1 s2 ∧ Dis s1 s3 ∧ Dis s2 s3) ∧ w.heap.size ≤ g ∧ M < w.heap.size
theorem SM.kept (w : World) (M : Nat) (tv v : Value) (t : List Nat) (g : Nat) (kd : Int) (s1 s2 s3 : Value) (l1 l2 l3 : List ByteArray) : Kept (SM w M tv v t g kd s1 s2 s3 l1 l2 l3) := fun X Y h hb => by
  obtain ⟨h1, h2, h3, ⟨h4, h5, h6⟩, h7⟩ := h
  exact ⟨gb_below h1 hb, h2.below hb, h3.below hb, ⟨h4.below hb, h5.below hb, h6.below hb⟩, h7⟩
theorem SM.below {w wx wy : World} {M : Nat} {tv v : Value} {t : List Nat} {g : Nat} {kd : Int} {s1 s2 s3 : Value} {l1 l2 l3 : List ByteArray} (h : SM w M tv v t g kd s1 s2 s3 l1 l2 l3 wx) (hb : Below wx.heap.size wx wy) : SM w M tv v t g kd s1 s2 s3 l1 l2 l3 wy := SM.kept _ _ _ _ _ _ _ _ _ _ _ _ _ _ _ h hb
theorem SM.kind {w wx : World} {M : Nat} {tv v : Value} {t : List Nat} {g : Nat} {kd : Int} {s1 s2 s3 : Value} {l1 l2 l3 : List ByteArray} (h : SM w M tv v t g kd s1 s2 s3 l1 l2 l3 wx) (kd' : Int) : SM w M tv v t g kd' s1 s2 s3 l1 l2 l3 (wx.setCell ⟨g, 0, none⟩ (.int .i64 kd')) := by
  obtain ⟨h1, h2, h3, ⟨h4, h5, h6⟩, h7, h8, h9, h10⟩ := h
  exact ⟨gb_set h1 (p := ⟨g, 0, none⟩) (.inr h9) _, h2.other (p := ⟨g, 0, none⟩) (by simp only; omega) _, h3.set (j := 0) (by simp) _, ⟨h4.otherN (p := ⟨g, 0, none⟩) h7.1 _, h5.otherN (p := ⟨g, 0, none⟩) h7.2.1 _, h6.otherN (p := ⟨g, 0, none⟩) h7.2.2 _⟩, h7, h8, h9, h10⟩
/-- the box is new behind the call -/
theorem SM.late {w w2 wy : World} {M : Nat} {tv v : Value} {t : List Nat} {s1 s2 s3 : Value} {l1 l2 l3 : List ByteArray} (h1 : w.grownBy w2 (some M)) (h2 : MB w2 M tv t v) (h4 : OT w2 w.heap.size s1 l1 ∧ OT w2 w.heap.size s2 l2 ∧ OT w2 w.heap.size s3 l3) (h8 : Dis s1 s2 ∧ Dis s1 s3 ∧ Dis s2 s3) (hM : M < w.heap.size) (hb : Below w2.heap.size w2 wy) {g : Nat} (hg : g = wy.heap.size) (T : TypeId) :
    SM w M tv v t g 0 s1 s2 s3 l1 l2 l3 (wy.alloc (.cells #[.int .i64 0, s1, s2, s3] T)) := by
  subst hg
  have hb2 := hb.alloc hb.size (.cells #[.int .i64 0, s1, s2, s3] T)
  have lt : ∀ {u : Value} {l : List ByteArray}, OT w2 w.heap.size u l → u.ownBlock ≠ some wy.heap.size := fun ho e => by
    have := (World.ownsRow.lt ho _ e).2
    have := hb.size
    omega
  exact ⟨gb_below h1 hb2, h2.below hb2, BX.new wy [_, _, _, _] T rfl, ⟨h4.1.below hb2, h4.2.1.below hb2, h4.2.2.below hb2⟩, ⟨lt h4.1, lt h4.2.1, lt h4.2.2⟩, h8, Nat.le_trans h1.size hb.size, hM⟩
/-- the box was there ahead of the call -/
theorem SM.early {w wc w2 wy : World} {M g : Nat} {tv v : Value} {t : List Nat} {s1 s2 s3 : Value} {l1 l2 l3 : List ByteArray} {cs : List Value} (h1 : w.grownBy w2 (some M)) (h2 : MB w2 M tv t v) (hbx : BX w2 g cs) (hcs : cs.length = 4) (h4 : OT w2 wc.heap.size s1 l1 ∧ OT w2 wc.heap.size s2 l2 ∧ OT w2 wc.heap.size s3 l3) (hwc : w.heap.size ≤ wc.heap.size) (hgc : g < wc.heap.size) (h8 : Dis s1 s2 ∧ Dis s1 s3 ∧ Dis s2 s3) (hM : M < w.heap.size) (hg : w.heap.size ≤ g) (hb : Below w2.heap.size w2 wy) :
    SM w M tv v t g 0 s1 s2 s3 l1 l2 l3 ((((wy.setCell ⟨g, 0, none⟩ (.int .i64 0)).setCell ⟨g, 1, none⟩ s1).setCell ⟨g, 2, none⟩ s2).setCell ⟨g, 3, none⟩ s3) := by
  have ne : ∀ {u : Value} {l : List ByteArray}, OT w2 wc.heap.size u l → u.ownBlock ≠ some g := fun ho e => by
    have := (World.ownsRow.lt ho _ e).1
    omega
  have o : ∀ {u : Value} {l : List ByteArray}, OT w2 wc.heap.size u l → OT ((((wy.setCell ⟨g, 0, none⟩ (.int .i64 0)).setCell ⟨g, 1, none⟩ s1).setCell ⟨g, 2, none⟩ s2).setCell ⟨g, 3, none⟩ s3) w.heap.size u l := fun ho =>
    (((((ho.baseN hwc).below hb).otherN (p := ⟨g, 0, none⟩) (ne ho) _).otherN (p := ⟨g, 1, none⟩) (ne ho) _).otherN (p := ⟨g, 2, none⟩) (ne ho) _).otherN (p := ⟨g, 3, none⟩) (ne ho) _
  have hx := ((((hbx.below hb).set (j := 0) (by omega) (.int .i64 0)).set (j := 1) (by rw [List.length_set]; omega) s1).set (j := 2) (by rw [List.length_set, List.length_set]; omega) s2).set (j := 3) (by rw [List.length_set, List.length_set, List.length_set]; omega) s3
  refine ⟨gb_set (gb_set (gb_set (gb_set (gb_below h1 hb) (p := ⟨g, 0, none⟩) (.inr hg) _) (p := ⟨g, 1, none⟩) (.inr hg) _) (p := ⟨g, 2, none⟩) (.inr hg) _) (p := ⟨g, 3, none⟩) (.inr hg) _, ?_, ?_, ⟨o h4.1, o h4.2.1, o h4.2.2⟩, ⟨ne h4.1, ne h4.2.1, ne h4.2.2⟩, h8, hg, hM⟩
  · exact ((((h2.below hb).other (p := ⟨g, 0, none⟩) (by simp only; omega) _).other (p := ⟨g, 1, none⟩) (by simp only; omega) _).other (p := ⟨g, 2, none⟩) (by simp only; omega) _).other (p := ⟨g, 3, none⟩) (by simp only; omega) _
  · match cs, hcs with
    | [a, b, c, d], _ => exact hx
end Go.Proofs.YtfhkmmicdbblnaaDoor

