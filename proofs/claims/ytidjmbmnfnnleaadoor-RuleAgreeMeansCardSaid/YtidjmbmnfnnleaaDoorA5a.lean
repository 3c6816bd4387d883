/-
  Rules: three patterns in boxes, stored anew.
-/
import Derived.Test.YtidjmbmnfnnleaaDoorA4
import Derived.Test.YtidjmbmnfnnleaaDoorA3
import Derived.Test.YtidjmbmnfnnleaaDoorR6
import Derived.Deep.LoopGhost
import Derived.Deep.RegionHeld3
import Derived.Deep.DeepCutAuto
namespace Go.Proofs.YtidjmbmnfnnleaaDoor
set_option linter.unusedSimpArgs false
set_option linter.unusedVariables false
open Go.RowKit
open Pm

/-- three patterns in boxes, stored anew -/
def set6 (w : World) (g : Nat) (a0 a1 b0 b1 c0 c1 : Value) : World :=
  (((((w.setCell ⟨g, 0, none⟩ a0).setCell ⟨g, 1, none⟩ a1).setCell ⟨g + 1, 0, none⟩ b0).setCell ⟨g + 1, 1, none⟩ b1).setCell ⟨g + 2, 0, none⟩ c0).setCell ⟨g + 2, 1, none⟩ c1
theorem RT.set6 {w : World} {A : Option Addr} {n g : Nat} {xs : List ByteArray} {u0 u1 v0 v1 x0 x1 : Value} (h : RT w A n xs) (hp : PX w g u0 u1) (hq : PX w (g + 1) v0 v1) (hr : PX w (g + 2) x0 x1)
    (h0 : ∀ x, u0 ≠ .string x) (h1 : ∀ x, u1 ≠ .string x) (h2 : ∀ x, v0 ≠ .string x) (h3 : ∀ x, v1 ≠ .string x) (h4 : ∀ x, x0 ≠ .string x) (h5 : ∀ x, x1 ≠ .string x) (a0 a1 b0 b1 c0 c1 : Value) : RT (set6 w g a0 a1 b0 b1 c0 c1) A n xs :=
  ((h.box hp h0 h1 a0 a1).box ((hq.set_cell _ (by simp) _).set_cell _ (by simp) _) h2 h3 b0 b1).box ((((hr.set_cell _ (by simp) _).set_cell _ (by simp) _).set_cell _ (by simp) _).set_cell _ (by simp) _) h4 h5 c0 c1
theorem ML.set6 {w : World} (h : ML w) {g : Nat} {u0 u1 v0 v1 x0 x1 : Value} (hp : PX w g u0 u1) (hq : PX w (g + 1) v0 v1) (hr : PX w (g + 2) x0 x1)
    (h0 : ∀ k a, u0 ≠ .int k a) (h1 : ∀ k a, u1 ≠ .int k a) (h2 : ∀ k a, v0 ≠ .int k a) (h3 : ∀ k a, v1 ≠ .int k a) (h4 : ∀ k a, x0 ≠ .int k a) (h5 : ∀ k a, x1 ≠ .int k a) (a0 a1 b0 b1 c0 c1 : Value) : ML (set6 w g a0 a1 b0 b1 c0 c1) := by
  obtain ⟨m, hm⟩ := h
  refine ⟨m, ?_⟩
  have far : ∀ (W : World) (p : Addr) (v u : Value), W.cell? p = some v → (∀ k a, v ≠ .int k a) → W.cell? ⟨0, 0, none⟩ = some (.int .i64 m) → (W.setCell p u).cell? ⟨0, 0, none⟩ = some (.int .i64 m) := fun W p v u e hne hc => by
    rw [World.cell?_setCell_other]
    · exact hc
    · intro ee
      rw [← ee] at hc
      rw [e] at hc
      exact hne _ _ (Option.some.inj hc)
  have q1 := (hq.set_cell ⟨g, 0, none⟩ (by simp) a0).set_cell ⟨g, 1, none⟩ (by simp) a1
  have r1 := (((hr.set_cell ⟨g, 0, none⟩ (by simp) a0).set_cell ⟨g, 1, none⟩ (by simp) a1).set_cell ⟨g + 1, 0, none⟩ (by simp) b0).set_cell ⟨g + 1, 1, none⟩ (by simp) b1
  unfold Proofs.YtidjmbmnfnnleaaDoor.set6
  refine far _ _ _ _ ((r1.set_fst c0).2.1) h5 (far _ _ _ _ r1.1 h4 (far _ _ _ _ ((q1.set_fst b0).2.1) h3 (far _ _ _ _ q1.1 h2 (far _ _ _ _ ((hp.set_fst a0).2.1) h1 (far _ _ _ _ hp.1 h0 hm)))))
theorem below_set6 {B g : Nat} {w w' : World} (h : Below B w w') (hg : B ≤ g) (a0 a1 b0 b1 c0 c1 : Value) : Below B w (set6 w' g a0 a1 b0 b1 c0 c1) :=
  below_box (below_box (below_box h hg _ _) (by omega) _ _) (by omega) _ _
theorem slice_ni (A : Option Addr) (n c : Nat) : ∀ k a, Value.slice A n c ≠ .int k a := fun k a h => by cases h
theorem bool_ni (r : Bool) : ∀ k a, Value.bool r ≠ .int k a := fun k a h => by cases h
theorem PC3.set {W : World} {A : Option Addr} {c : Nat} {xs : List ByteArray} {r : Bool} {B : Option Addr} {d : Nat} {zs : List ByteArray} {u : Bool} {C : Option Addr} {e : Nat} {ys : List ByteArray} {t : Bool} {w : World} (h : At (PC3 W A c xs r B d zs u C e ys t) w)
    {A' : Option Addr} {c' : Nat} {xs' : List ByteArray} {B' : Option Addr} {d' : Nat} {zs' : List ByteArray} {C' : Option Addr} {e' : Nat} {ys' : List ByteArray} (hx : RT w A' c' xs') (hz : RT w B' d' zs') (hy : RT w C' e' ys') :
    At (PC3 W A' c' xs' r B' d' zs' u C' e' ys' t) (set6 w W.heap.size (.slice A' xs'.length c') (.bool r) (.slice B' zs'.length d') (.bool u) (.slice C' ys'.length e') (.bool t)) := by
  obtain ⟨p, q, s, f⟩ := PC3.cells h
  have hm := h.out.2.2.1
  have hb := h.out.2.2.2
  refine ⟨PC3.kept _ _ _ _ _ _ _ _ _ _ _ _ _, ⟨?_, ?_, ?_, ?_⟩, ⟨?_, ?_, ?_⟩, ?_, ?_⟩
  · exact ((((p.set_same _ _).set_cell _ (by simp) _).set_cell _ (by simp) _).set_cell _ (by simp) _).set_cell _ (by simp) _
  · exact ((((q.set_cell _ (by simp) _).set_cell _ (by simp) _).set_same _ _).set_cell _ (by simp) _).set_cell _ (by simp) _
  · exact ((((s.set_cell _ (by simp) _).set_cell _ (by simp) _).set_cell _ (by simp) _).set_cell _ (by simp) _).set_same _ _
  · exact (((((f.set_cell _ (by simp) _).set_cell _ (by simp) _).set_cell _ (by simp) _).set_cell _ (by simp) _).set_cell _ (by simp) _).set_cell _ (by simp) _
  · exact hx.set6 p q s (slice_ns _ _ _) (bool_ns _) (slice_ns _ _ _) (bool_ns _) (slice_ns _ _ _) (bool_ns _) _ _ _ _ _ _
  · exact hz.set6 p q s (slice_ns _ _ _) (bool_ns _) (slice_ns _ _ _) (bool_ns _) (slice_ns _ _ _) (bool_ns _) _ _ _ _ _ _
  · exact hy.set6 p q s (slice_ns _ _ _) (bool_ns _) (slice_ns _ _ _) (bool_ns _) (slice_ns _ _ _) (bool_ns _) _ _ _ _ _ _
  · exact hm.set6 p q s (slice_ni _ _ _) (bool_ni _) (slice_ni _ _ _) (bool_ni _) (slice_ni _ _ _) (bool_ni _) _ _ _ _ _ _
  · exact below_set6 hb (Nat.le_refl _) _ _ _ _ _ _
theorem PC3.rl {W : World} {A : Option Addr} {c : Nat} {xs : List ByteArray} {r : Bool} {B : Option Addr} {d : Nat} {zs : List ByteArray} {u : Bool} {C : Option Addr} {e : Nat} {ys : List ByteArray} {t : Bool} {w : World} (h : At (PC3 W A c xs r B d zs u C e ys t) w) : RT w A c xs := h.out.2.1.1
theorem PC3.rf {W : World} {A : Option Addr} {c : Nat} {xs : List ByteArray} {r : Bool} {B : Option Addr} {d : Nat} {zs : List ByteArray} {u : Bool} {C : Option Addr} {e : Nat} {ys : List ByteArray} {t : Bool} {w : World} (h : At (PC3 W A c xs r B d zs u C e ys t) w) : RT w B d zs := h.out.2.1.2.1
theorem PC3.rs {W : World} {A : Option Addr} {c : Nat} {xs : List ByteArray} {r : Bool} {B : Option Addr} {d : Nat} {zs : List ByteArray} {u : Bool} {C : Option Addr} {e : Nat} {ys : List ByteArray} {t : Bool} {w : World} (h : At (PC3 W A c xs r B d zs u C e ys t) w) : RT w C e ys := h.out.2.1.2.2
theorem take_cnt {xs : List ByteArray} {k : Nat} {x : ByteArray} (h : xs[k]? = some x) : countB stB (xs.take (k + 1)) = countB stB (xs.take k) + if stB x = true then 1 else 0 := by
  rw [List.take_add_one, h, count_app, Option.toList_some, count_one]
theorem cnt_le (xs : List ByteArray) (k : Nat) : countB stB (xs.take k) ≤ k := by
  unfold countB
  exact Nat.le_trans (List.length_filter_le _ _) (List.length_take_le _ _)
theorem txt_ne {x y : ByteArray} (h : x ≠ y) : (x.toList == y.toList) = false := by
  rw [beq_eq_false_iff_ne, Lib.toList_data, Lib.toList_data]
  intro e
  refine h ?_
  rw [← mkB_back x, ← mkB_back y, e]
end Go.Proofs.YtidjmbmnfnnleaaDoor

